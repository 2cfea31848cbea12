/-
  Texts laid one behind the other (a claim has at most 60 files): Move, Open, Move4, Take, Grid, Into, VecLaw, Seg.
-/
import Derived.ProofKit
import Derived.OpenShut
import Derived.Deep.Fields
import Derived.Test.YtcmggfpcbijcjaaQGemmWhole1
import Derived.Test.YtcmggfpcbijcjaaQGemmWhole2
section
/-
  Contracts: rows, what swaps numbers, rows that change places (layers 3 and 4).
-/
set_option linter.unusedSimpArgs false
set_option linter.unusedVariables false
open Go Go.RowKit Sedge
namespace Go.Proofs.Ytcmggfpcbijcjaa
/-- A row, as a vector. -/
def rowV (m : MatM) (i : Nat) : VecM := ⟨m.ws, if 0 < m.cols then m.off + i else m.off, m.cols, m.ld⟩
set_option maxRecDepth 100000 in
set_option maxHeartbeats 1000000 in
theorem row_any (x : MatM) (D : Value) (i : Nat) (w : World) (hD : FS w D x.ws) (hx : x.good = true) (hwf : x.wf) (hi : (i : Int) < x.rows) :
   Calls Try.prog 132 #[.agg #[D, .int .i64 x.off, .int .i64 x.rows, .int .i64 x.cols, .int .i64 x.ld], .int .i64 i] w
     (fun e w' => e = .returned (.agg #[D, .int .i64 (rowV x i).off, .int .i64 x.cols, .int .i64 x.ld]) ∧ ∃ o n, w' = ext w o n) := by
  have hn := MatM.good_n hx
  obtain ⟨aD, capD, rfl⟩ := hD.shape
  have k1 : (!x.good) = false := by simp [hx]
  have hlen := hD.len
  have Hw := hid hwf
  have k3 : decide ((i : Int) < 0) = false := by simp
  have k4 : decide (x.rows ≤ (i : Int)) = false := by simp; omega
  by_cases hc : 0 < x.cols
  · have hp := MatM.good_place hx (i := i) (j := 0) hi (by simpa using hc)
    simp only [Int.natCast_zero, Int.zero_mul, Int.add_zero] at hp
    have e : (rowV x i).off = x.off + i := by simp [rowV, hc]
    have Hx := hid hx
    rw [e]
    clear hx hwf e
    go_enter Try.func132, Try.ntmps132
    refine seq_stop ?_
    go_wp2
    refine stop_go (fun W hW => ?_)
    have s1 : w.heap.size < W.heap.size := by rw [hW]; simp only [World.size_alloc]; omega
    have b1 : ∀ i, W.cell? ⟨w.heap.size, i, none⟩ = (#[.slice aD x.ws.length capD, .int .i64 x.off, .int .i64 x.rows, .int .i64 x.cols, .int .i64 x.ld] : Array Value)[i]? := by intro i; rw [hW]; go_simp
    have f1 : ∀ i, W.frozen? ⟨w.heap.size, i, none⟩ = false := by intro i; rw [hW]; go_simp
    have s2 : w.heap.size + 1 < W.heap.size := by rw [hW]; simp only [World.size_alloc]; omega
    have b2 : ∀ i, W.cell? ⟨w.heap.size + 1, i, none⟩ = (#[.slice none 0 0, .int .i64 0, .int .i64 0, .int .i64 0] : Array Value)[i]? := by intro i; rw [hW]; go_simp
    have f2 : ∀ i, W.frozen? ⟨w.heap.size + 1, i, none⟩ = false := by intro i; rw [hW]; go_simp
    have g0 : Grew w W := by rw [hW]; exact ((Grew.refl _).alloc _).alloc _
    clear hW
    have hDW : FS W (.slice aD x.ws.length capD) x.ws := hD.grew g0
    go_wp2_with (first | (go_at_call 130; ((with_reducible refine (good_any x _ _ ?_ Hw.out).mono ?_); (focus (first | (with_reducible assumption) | (with_reducible refine FS.ext ?_ _ _; with_reducible assumption) | (with_reducible refine IS.ext ?_ _ _; with_reducible assumption) | (refine hDu _ ?_; with_reducible assumption) | (refine hOu _ ?_; with_reducible assumption) | (refine hDa _ ?_; with_reducible assumption) | (refine hDb _ ?_; with_reducible assumption) | (refine hDc _ ?_; with_reducible assumption) | (refine hDd _ ?_; with_reducible assumption) | (refine FW.fs ?_ (by omega) _; with_reducible assumption) | (refine WS.fs ?_; with_reducible assumption) | (refine FW.fs ?_ (by omega) _; assumption) | omega | assumption)); rintro e w1 ⟨rfl, o1, n1, rfl⟩)))
    refine bodyPost_ret (v := .agg #[.slice aD x.ws.length capD, .int .i64 (x.off + i), .int .i64 x.cols, .int .i64 x.ld]) (by simp [results, Try.results132, go_sem, *]) rfl ?_
    exact ⟨rfl, by (show Grew _ _; repeat (first | (with_reducible exact Grew.refl _) | (with_reducible assumption) | (with_reducible exact Grew.same_o) | (with_reducible exact Grew.app_o) | (with_reducible refine Grew.ext ?_ _ _) | (with_reducible refine Grew.alloc ?_ _) | ((with_reducible refine Grew.setCell ?_ ?_ _); rotate_left; (focus (dsimp only; first | omega | (simp only [size_ext, World.size_alloc, Array.size_append]; omega)))) | (with_reducible refine Grew.drewN ?_ _) | (with_reducible refine Grew.drew ?_)))⟩
  · have e : (rowV x i).off = x.off := by simp [rowV, hc]
    have Hx := hid hx
    rw [e]
    clear hx hwf e
    go_enter Try.func132, Try.ntmps132
    refine seq_stop ?_
    go_wp2
    refine stop_go (fun W hW => ?_)
    have s1 : w.heap.size < W.heap.size := by rw [hW]; simp only [World.size_alloc]; omega
    have b1 : ∀ i, W.cell? ⟨w.heap.size, i, none⟩ = (#[.slice aD x.ws.length capD, .int .i64 x.off, .int .i64 x.rows, .int .i64 x.cols, .int .i64 x.ld] : Array Value)[i]? := by intro i; rw [hW]; go_simp
    have f1 : ∀ i, W.frozen? ⟨w.heap.size, i, none⟩ = false := by intro i; rw [hW]; go_simp
    have s2 : w.heap.size + 1 < W.heap.size := by rw [hW]; simp only [World.size_alloc]; omega
    have b2 : ∀ i, W.cell? ⟨w.heap.size + 1, i, none⟩ = (#[.slice none 0 0, .int .i64 0, .int .i64 0, .int .i64 0] : Array Value)[i]? := by intro i; rw [hW]; go_simp
    have f2 : ∀ i, W.frozen? ⟨w.heap.size + 1, i, none⟩ = false := by intro i; rw [hW]; go_simp
    have g0 : Grew w W := by rw [hW]; exact ((Grew.refl _).alloc _).alloc _
    clear hW
    have hDW : FS W (.slice aD x.ws.length capD) x.ws := hD.grew g0
    go_wp2_with (first | (go_at_call 130; ((with_reducible refine (good_any x _ _ ?_ Hw.out).mono ?_); (focus (first | (with_reducible assumption) | (with_reducible refine FS.ext ?_ _ _; with_reducible assumption) | (with_reducible refine IS.ext ?_ _ _; with_reducible assumption) | (refine hDu _ ?_; with_reducible assumption) | (refine hOu _ ?_; with_reducible assumption) | (refine hDa _ ?_; with_reducible assumption) | (refine hDb _ ?_; with_reducible assumption) | (refine hDc _ ?_; with_reducible assumption) | (refine hDd _ ?_; with_reducible assumption) | (refine FW.fs ?_ (by omega) _; with_reducible assumption) | (refine WS.fs ?_; with_reducible assumption) | (refine FW.fs ?_ (by omega) _; assumption) | omega | assumption)); rintro e w1 ⟨rfl, o1, n1, rfl⟩)))
    refine bodyPost_ret (v := .agg #[.slice aD x.ws.length capD, .int .i64 x.off, .int .i64 x.cols, .int .i64 x.ld]) (by simp [results, Try.results132, go_sem, *]) rfl ?_
    exact ⟨rfl, by (show Grew _ _; repeat (first | (with_reducible exact Grew.refl _) | (with_reducible assumption) | (with_reducible exact Grew.same_o) | (with_reducible exact Grew.app_o) | (with_reducible refine Grew.ext ?_ _ _) | (with_reducible refine Grew.alloc ?_ _) | ((with_reducible refine Grew.setCell ?_ ?_ _); rotate_left; (focus (dsimp only; first | omega | (simp only [size_ext, World.size_alloc, Array.size_append]; omega)))) | (with_reducible refine Grew.drewN ?_ _) | (with_reducible refine Grew.drew ?_)))⟩

/-- The numbers at p k and q k change places, one pair behind the other. -/
def swaps (l : List Nat) (p q : Nat → Nat) : Nat → List Nat
  | 0 => l
  | k + 1 => ((swaps l p q k).set (p k) ((swaps l p q k).getD (q k) 0)).set (q k) ((swaps l p q k).getD (p k) 0)
@[simp] theorem swaps_length (l : List Nat) (p q : Nat → Nat) : ∀ k, (swaps l p q k).length = l.length
  | 0 => rfl
  | k + 1 => by unfold swaps; rw [List.length_set, List.length_set, swaps_length l p q k]
set_option maxRecDepth 100000 in
set_option maxHeartbeats 2000000 in
/-- move.swap, of vectors in one list. -/
theorem swap1_any (x y : VecM) (g cap : Nat) (w : World) (hF : FW w g x.ws) (hxy : y.ws = x.ws) (hx : x.right = true) (hy : y.right = true) (hwx : x.wf) (hwy : y.wf) (hn : y.n = x.n) (hl : x.ws.length ≤ 1000000) :
   Calls Try.prog 131 #[.agg #[.slice (some ⟨g, 0, none⟩) x.ws.length cap, .int .i64 x.off, .int .i64 x.n, .int .i64 x.inc], .agg #[.slice (some ⟨g, 0, none⟩) x.ws.length cap, .int .i64 y.off, .int .i64 y.n, .int .i64 y.inc]] w
     (fun e w' => e = .returned (.tuple #[]) ∧ Wrote w w' g (swaps x.ws x.place y.place x.n.toNat)) := by
  have hx0 : 0 ≤ x.n := by have := VecM.right_n hx; omega
  have hx1 : x.n ≤ 9223372036854775807 := by have := hwx.2.1.2; omega
  have hox := VecM.right_n hx
  have hoy := VecM.right_n hy
  have Hx := hid hx
  have Hy := hid hy
  have Hn := hid hn
  have Hxy := hid hxy
  have hltg := hF.lt
  clear hx hy hwx hwy hn hxy
  go_enter Try.func131, Try.ntmps131
  refine seq_stop ?_
  go_wp2
  refine stop_go (fun W hW => ?_)
  have s1 : w.heap.size < W.heap.size := by rw [hW]; simp only [World.size_alloc]; omega
  have b1 : ∀ i, W.cell? ⟨w.heap.size, i, none⟩ = (#[.slice (some ⟨g, 0, none⟩) x.ws.length cap, .int .i64 x.off, .int .i64 x.n, .int .i64 x.inc] : Array Value)[i]? := by intro i; rw [hW]; go_simp
  have f1 : ∀ i, W.frozen? ⟨w.heap.size, i, none⟩ = false := by intro i; rw [hW]; go_simp
  have s2 : w.heap.size + 1 < W.heap.size := by rw [hW]; simp only [World.size_alloc]; omega
  have b2 : ∀ i, W.cell? ⟨w.heap.size + 1, i, none⟩ = (#[.slice (some ⟨g, 0, none⟩) x.ws.length cap, .int .i64 y.off, .int .i64 y.n, .int .i64 y.inc] : Array Value)[i]? := by intro i; rw [hW]; go_simp
  have f2 : ∀ i, W.frozen? ⟨w.heap.size + 1, i, none⟩ = false := by intro i; rw [hW]; go_simp
  have g0 : Grew w W := by rw [hW]; exact ((Grew.refl _).alloc _).alloc _
  clear hW
  have hFW := hF.grew g0
  have gl := hFW.lt
  have q1 : w.heap.size ≠ g := by omega
  have q2 : w.heap.size + 1 ≠ g := by omega
  have fz : ∀ i, W.frozen? ⟨g, i, none⟩ = false := hFW.notFrozen
  go_wp2
  go_loopw [9] (fun c wr => ∃ (i : Nat) (cs : Array Value) (o : Array Obj) (n : Nat), (i : Int) ≤ x.n ∧ c = .int .i64 i ∧ wr = ext (upd W g cs) o n ∧ CF cs (swaps x.ws x.place y.place i)) (fun c _ => (x.n - intOf c).toNat)
  case atStart =>
    obtain ⟨cs, h1, h2⟩ := hFW.self
    exact ⟨0, cs, #[], _, hx0, rfl, by rw [h1]; exact ext_zero.symm, h2⟩
  case round =>
    obtain ⟨i, cs, o2, n2, hi, rfl, hwr, hcs⟩ := hrel
    subst hwr
    by_cases hlt : (i : Int) < x.n
    · have hp := VecM.right_place Hx.out hlt
      have hq := VecM.right_place Hy.out (i := i) (by have := Hn.out; omega)
      rw [Hxy.out] at hq
      have h2 : IntKind.i64.wrap (i * x.inc) = i * x.inc := IntWalk.i64_in _ (by omega)
      have h3 : IntKind.i64.wrap (x.off + i * x.inc) = x.off + i * x.inc := IntWalk.i64_in _ (by omega)
      have h4 : IntKind.i64.wrap (i * y.inc) = i * y.inc := IntWalk.i64_in _ (by omega)
      have h5 : IntKind.i64.wrap (y.off + i * y.inc) = y.off + i * y.inc := IntWalk.i64_in _ (by omega)
      have hlen : (swaps x.ws x.place y.place i).length = x.ws.length := by simp
      have hfw : ∀ o n, FW (ext (upd W g cs) o n) g (swaps x.ws x.place y.place i) := fun o n => hFW.mk' hcs o n
      obtain ⟨r0, hr0, hf0⟩ := (hfw o2 n2).get (i := x.place i) (by rw [hlen]; unfold VecM.place; omega)
      obtain ⟨s0, hs0, hg0⟩ := (hfw o2 n2).get (i := y.place i) (by rw [hlen]; unfold VecM.place; omega)
      have hr1 := (cell_ext (by simpa using gl)).symm.trans hr0
      have hs1 := (cell_ext (by simpa using gl)).symm.trans hs0
      unfold VecM.place at hr1 hs1
      obtain ⟨t0, ht0, _⟩ := (hFW.mk' (hcs.set (i := x.place i) hg0) o2 n2).get (i := y.place i) (by rw [List.length_set, hlen]; unfold VecM.place; omega)
      have ht1 := (cell_ext (by simpa using gl)).symm.trans ht0
      unfold VecM.place at ht1
      clear hr0 hs0 ht0
      go_wp2
      refine wp_region_R (Grew (upd W g cs)) [] [(0,0), (0,1), (0,2), (0,3), (0,4), (0,5), (0,6), (0,7), (0,8), (0,9), (0,10), (0,11), (0,12), (0,13), (0,14), (0,15), (0,16), (0,17), (0,18), (0,19), (0,20), (0,21)] (by kernel_rfl) (by kernel_rfl) (fun _ _ _ _ h _ => h) (by first | exact ⟨_, _, ext_drew⟩ | exact ⟨_, _, drew_ext0⟩ | (show Grew _ _; repeat (first | (with_reducible exact Grew.refl _) | (with_reducible assumption) | (with_reducible exact Grew.same_o) | (with_reducible exact Grew.app_o) | (with_reducible refine Grew.ext ?_ _ _) | (with_reducible refine Grew.alloc ?_ _) | ((with_reducible refine Grew.setCell ?_ ?_ _); rotate_left; (focus (dsimp only; first | omega | (simp only [size_ext, World.size_alloc, Array.size_append]; omega)))) | (with_reducible refine Grew.drewN ?_ _) | (with_reducible refine Grew.drew ?_)))) ?_
      go_wp2_with (first | ((with_reducible refine wpR_id ?_); first | (refine wpR_take (v := ?_) rfl rfl ?_ ?_; rotate_left; (focus (rintro w' ⟨o', n', rfl⟩; go_simp; try with_reducible rfl)); simp only [Act.put, List.setIfInBounds_toArray, List.set_cons_zero, List.set_cons_succ]) | (refine wpR_pure (v := ?_) rfl rfl ?_ ?_; rotate_left; (focus (intro w'; go_simp; try with_reducible rfl)); simp only [Act.put, List.setIfInBounds_toArray, List.set_cons_zero, List.set_cons_succ]) | (refine wpR_takeG (v := ?_) rfl rfl rfl rfl rfl ?_ ?_; rotate_left; (focus (rintro w' ⟨o', n', rfl⟩; go_simp; try with_reducible rfl)); simp only [Act.put, List.setIfInBounds_toArray, List.set_cons_zero, List.set_cons_succ]) | (refine wpR_skip rfl rfl rfl rfl rfl rfl ?_; simp only [Act.put, List.setIfInBounds_toArray, List.set_cons_zero, List.set_cons_succ]) | (refine wpR_skipU rfl rfl rfl rfl rfl ?_; simp only [Act.put, List.setIfInBounds_toArray, List.set_cons_zero, List.set_cons_succ]) | (refine wpR_do rfl rfl (fun K hK => ?_)) | (refine wpR_doG rfl rfl rfl rfl rfl (fun K hK => ?_)) | (refine wpR_last rfl rfl (fun K hK => ?_)) | (refine wpR_nil ?_)) | ((with_reducible refine wpR_go ?_ ?_); (focus exact ⟨_, _, rfl⟩)) | ((with_reducible refine upon_id ?_); refine upon_fop rfl (by assumption) (by assumption) ?_; intro rr nn hr))
      refine wp_region_R (Grew (upd W g cs)) [9, 11] [(3,0), (3,1), (3,2), (3,3), (0,4), (3,5), (3,6), (0,7), (3,8), (2,9), (3,10), (2,11)] (by kernel_rfl) (by kernel_rfl) (fun _ _ _ _ h _ => h) (by first | exact ⟨_, _, ext_drew⟩ | exact ⟨_, _, drew_ext0⟩ | (show Grew _ _; repeat (first | (with_reducible exact Grew.refl _) | (with_reducible assumption) | (with_reducible exact Grew.same_o) | (with_reducible exact Grew.app_o) | (with_reducible refine Grew.ext ?_ _ _) | (with_reducible refine Grew.alloc ?_ _) | ((with_reducible refine Grew.setCell ?_ ?_ _); rotate_left; (focus (dsimp only; first | omega | (simp only [size_ext, World.size_alloc, Array.size_append]; omega)))) | (with_reducible refine Grew.drewN ?_ _) | (with_reducible refine Grew.drew ?_)))) ?_
      go_wp2_with (first | ((with_reducible refine wpR_id ?_); first | (refine wpR_take (v := ?_) rfl rfl ?_ ?_; rotate_left; (focus (rintro w' ⟨o', n', rfl⟩; go_simp; try with_reducible rfl)); simp only [Act.put, List.setIfInBounds_toArray, List.set_cons_zero, List.set_cons_succ]) | (refine wpR_pure (v := ?_) rfl rfl ?_ ?_; rotate_left; (focus (intro w'; go_simp; try with_reducible rfl)); simp only [Act.put, List.setIfInBounds_toArray, List.set_cons_zero, List.set_cons_succ]) | (refine wpR_takeG (v := ?_) rfl rfl rfl rfl rfl ?_ ?_; rotate_left; (focus (rintro w' ⟨o', n', rfl⟩; go_simp; try with_reducible rfl)); simp only [Act.put, List.setIfInBounds_toArray, List.set_cons_zero, List.set_cons_succ]) | (refine wpR_skip rfl rfl rfl rfl rfl rfl ?_; simp only [Act.put, List.setIfInBounds_toArray, List.set_cons_zero, List.set_cons_succ]) | (refine wpR_skipU rfl rfl rfl rfl rfl ?_; simp only [Act.put, List.setIfInBounds_toArray, List.set_cons_zero, List.set_cons_succ]) | (refine wpR_do rfl rfl (fun K hK => ?_)) | (refine wpR_doG rfl rfl rfl rfl rfl (fun K hK => ?_)) | (refine wpR_last rfl rfl (fun K hK => ?_)) | (refine wpR_nil ?_)) | ((with_reducible refine wpR_go ?_ ?_); (focus exact ⟨_, _, rfl⟩)) | ((with_reducible refine upon_id ?_); refine upon_fop rfl (by assumption) (by assumption) ?_; intro rr nn hr))
      go_roundw
      case rel =>
        refine ⟨i + 1, _, _, _, by omega, by go_num, rfl, ?_⟩
        unfold swaps
        exact (hcs.set (i := x.place i) hg0).set (i := y.place i) hf0
      case measure => simp [intOf]; omega
    · have e : x.n.toNat = i := by omega
      go_wp2
      go_end0
      exact ⟨rfl, Wrote.grew_l g0 (by omega) ⟨cs, _, _, rfl, by first | exact hcs | (rw [e]; exact hcs)⟩⟩
/-- move.Rows: the error's number; the list behind it. -/
def rowsOk (m : MatM) (i k : Int) : Bool := m.good && decide (0 ≤ i) && decide (0 ≤ k) && decide (i < m.rows) && decide (k < m.rows)
def rowsE (m : MatM) (i k : Int) : Int := if rowsOk m i k = true then 0 else 1
def rowsL (m : MatM) (i k : Int) : List Nat := if rowsOk m i k = true ∧ i ≠ k then swaps m.ws (rowV m i.toNat).place (rowV m k.toNat).place m.cols.toNat else m.ws
theorem rowV_right {m : MatM} (h : m.good = true) {i : Nat} (hi : (i : Int) < m.rows) : (rowV m i).right = true := by
  have h0 := MatM.good_n h
  by_cases hc : 0 < m.cols
  · have h2 := MatM.good_place h (i := i) (j := m.cols.toNat - 1) hi (by omega)
    have e : ((m.cols.toNat - 1 : Nat) : Int) = m.cols - 1 := by omega
    rw [e] at h2
    simp [rowV, VecM.right, fitsB, hc]; omega
  · have : m.cols = 0 := by omega
    simp [rowV, VecM.right, this]; omega
theorem rowV_wf {m : MatM} (h : m.good = true) (hwf : m.wf) {i : Nat} (hi : (i : Int) < m.rows) (hl : m.ws.length ≤ 1000000) : (rowV m i).wf := by
  have h0 := MatM.good_n h
  obtain ⟨a, b, c, d⟩ := hwf
  by_cases hc : 0 < m.cols
  · have h2 := MatM.good_place h (i := i) (j := 0) hi (by simpa using hc)
    simp [rowV, VecM.wf, hc, I64] at *; omega
  · simp [rowV, VecM.wf, hc]; exact ⟨a, c, d⟩
set_option maxRecDepth 100000 in
set_option maxHeartbeats 2000000 in
theorem rows_any (x : MatM) (g cap : Nat) (i k : Int) (w : World) (hF : FW w g x.ws) (hwf : x.wf) (hl : x.ws.length ≤ 1000000) (hi : I64 i) (hk : I64 k) :
   Calls Try.prog 44 #[.agg #[.slice (some ⟨g, 0, none⟩) x.ws.length cap, .int .i64 x.off, .int .i64 x.rows, .int .i64 x.cols, .int .i64 x.ld], .int .i64 i, .int .i64 k] w
     (fun e w' => e = .returned (.int .i64 (rowsE x i k)) ∧ Wrote w w' g (rowsL x i k)) := by
  have hD := hF.fs (by omega) cap
  have hlt := hF.lt
  have Hw := hid hwf
  have hr0 := hwf.2.1
  unfold I64 at hi hk hr0
  clear hwf
  have no : ∀ w', Grew w w' → rowsOk x i k = false → Wrote w w' g (rowsL x i k) := fun w' hg hn => by
    unfold rowsL; rw [hn]; exact Wrote.grew_r (Wrote.refl hF) hg
  have No := hid no
  clear no
  cases hgd : x.good
  · have q : rowsOk x i k = false := by simp [rowsOk, hgd]
    have k1 : (!x.good) = true := by simp [hgd]
    have Hgd := hid hgd
    clear hgd
    go_enter Try.func44, Try.ntmps44
    refine seq_stop ?_
    go_wp2
    refine stop_go (fun W hW => ?_)
    have s1 : w.heap.size < W.heap.size := by rw [hW]; simp only [World.size_alloc]; omega
    have b1 : ∀ i, W.cell? ⟨w.heap.size, i, none⟩ = (#[.slice (some ⟨g, 0, none⟩) x.ws.length cap, .int .i64 x.off, .int .i64 x.rows, .int .i64 x.cols, .int .i64 x.ld] : Array Value)[i]? := by intro i; rw [hW]; go_simp
    have g0 : Grew w W := by rw [hW]; exact (Grew.refl _).alloc _
    clear hW
    have hDW := hD.grew g0
    go_wp2_with (first | (go_at_call 130; ((with_reducible refine (good_any x _ _ ?_ Hw.out).mono ?_); (focus (first | (with_reducible assumption) | (with_reducible refine FS.ext ?_ _ _; with_reducible assumption) | (with_reducible refine IS.ext ?_ _ _; with_reducible assumption) | (refine hDu _ ?_; with_reducible assumption) | (refine hOu _ ?_; with_reducible assumption) | (refine hDa _ ?_; with_reducible assumption) | (refine hDb _ ?_; with_reducible assumption) | (refine hDc _ ?_; with_reducible assumption) | (refine hDd _ ?_; with_reducible assumption) | (refine FW.fs ?_ (by omega) _; with_reducible assumption) | (refine WS.fs ?_; with_reducible assumption) | (refine FW.fs ?_ (by omega) _; assumption) | omega | assumption)); rintro e w1 ⟨rfl, o1, n1, rfl⟩)))
    go_ret
    exact ⟨by unfold rowsE; rw [q]; rfl, No.out _ (by (show Grew _ _; repeat (first | (with_reducible exact Grew.refl _) | (with_reducible assumption) | (with_reducible exact Grew.same_o) | (with_reducible exact Grew.app_o) | (with_reducible refine Grew.ext ?_ _ _) | (with_reducible refine Grew.alloc ?_ _) | ((with_reducible refine Grew.setCell ?_ ?_ _); rotate_left; (focus (dsimp only; first | omega | (simp only [size_ext, World.size_alloc, Array.size_append]; omega)))) | (with_reducible refine Grew.drewN ?_ _) | (with_reducible refine Grew.drew ?_)))) q⟩
  have k1 : (!x.good) = false := by simp [hgd]
  have Hgd := hid hgd
  clear hgd
  by_cases c1 : i < 0
  · have q : rowsOk x i k = false := by simp [rowsOk]; omega
    have d1 : decide (i < 0) = true := by simpa using c1
    go_enter Try.func44, Try.ntmps44
    refine seq_stop ?_
    go_wp2
    refine stop_go (fun W hW => ?_)
    have s1 : w.heap.size < W.heap.size := by rw [hW]; simp only [World.size_alloc]; omega
    have b1 : ∀ i, W.cell? ⟨w.heap.size, i, none⟩ = (#[.slice (some ⟨g, 0, none⟩) x.ws.length cap, .int .i64 x.off, .int .i64 x.rows, .int .i64 x.cols, .int .i64 x.ld] : Array Value)[i]? := by intro i; rw [hW]; go_simp
    have g0 : Grew w W := by rw [hW]; exact (Grew.refl _).alloc _
    clear hW
    have hDW := hD.grew g0
    go_wp2_with (first | (go_at_call 130; ((with_reducible refine (good_any x _ _ ?_ Hw.out).mono ?_); (focus (first | (with_reducible assumption) | (with_reducible refine FS.ext ?_ _ _; with_reducible assumption) | (with_reducible refine IS.ext ?_ _ _; with_reducible assumption) | (refine hDu _ ?_; with_reducible assumption) | (refine hOu _ ?_; with_reducible assumption) | (refine hDa _ ?_; with_reducible assumption) | (refine hDb _ ?_; with_reducible assumption) | (refine hDc _ ?_; with_reducible assumption) | (refine hDd _ ?_; with_reducible assumption) | (refine FW.fs ?_ (by omega) _; with_reducible assumption) | (refine WS.fs ?_; with_reducible assumption) | (refine FW.fs ?_ (by omega) _; assumption) | omega | assumption)); rintro e w1 ⟨rfl, o1, n1, rfl⟩)))
    go_ret
    exact ⟨by unfold rowsE; rw [q]; rfl, No.out _ (by (show Grew _ _; repeat (first | (with_reducible exact Grew.refl _) | (with_reducible assumption) | (with_reducible exact Grew.same_o) | (with_reducible exact Grew.app_o) | (with_reducible refine Grew.ext ?_ _ _) | (with_reducible refine Grew.alloc ?_ _) | ((with_reducible refine Grew.setCell ?_ ?_ _); rotate_left; (focus (dsimp only; first | omega | (simp only [size_ext, World.size_alloc, Array.size_append]; omega)))) | (with_reducible refine Grew.drewN ?_ _) | (with_reducible refine Grew.drew ?_)))) q⟩
  have d1 : decide (i < 0) = false := by simpa using c1
  by_cases c2 : k < 0
  · have q : rowsOk x i k = false := by simp [rowsOk]; omega
    have d2 : decide (k < 0) = true := by simpa using c2
    go_enter Try.func44, Try.ntmps44
    refine seq_stop ?_
    go_wp2
    refine stop_go (fun W hW => ?_)
    have s1 : w.heap.size < W.heap.size := by rw [hW]; simp only [World.size_alloc]; omega
    have b1 : ∀ i, W.cell? ⟨w.heap.size, i, none⟩ = (#[.slice (some ⟨g, 0, none⟩) x.ws.length cap, .int .i64 x.off, .int .i64 x.rows, .int .i64 x.cols, .int .i64 x.ld] : Array Value)[i]? := by intro i; rw [hW]; go_simp
    have g0 : Grew w W := by rw [hW]; exact (Grew.refl _).alloc _
    clear hW
    have hDW := hD.grew g0
    go_wp2_with (first | (go_at_call 130; ((with_reducible refine (good_any x _ _ ?_ Hw.out).mono ?_); (focus (first | (with_reducible assumption) | (with_reducible refine FS.ext ?_ _ _; with_reducible assumption) | (with_reducible refine IS.ext ?_ _ _; with_reducible assumption) | (refine hDu _ ?_; with_reducible assumption) | (refine hOu _ ?_; with_reducible assumption) | (refine hDa _ ?_; with_reducible assumption) | (refine hDb _ ?_; with_reducible assumption) | (refine hDc _ ?_; with_reducible assumption) | (refine hDd _ ?_; with_reducible assumption) | (refine FW.fs ?_ (by omega) _; with_reducible assumption) | (refine WS.fs ?_; with_reducible assumption) | (refine FW.fs ?_ (by omega) _; assumption) | omega | assumption)); rintro e w1 ⟨rfl, o1, n1, rfl⟩)))
    go_ret
    exact ⟨by unfold rowsE; rw [q]; rfl, No.out _ (by (show Grew _ _; repeat (first | (with_reducible exact Grew.refl _) | (with_reducible assumption) | (with_reducible exact Grew.same_o) | (with_reducible exact Grew.app_o) | (with_reducible refine Grew.ext ?_ _ _) | (with_reducible refine Grew.alloc ?_ _) | ((with_reducible refine Grew.setCell ?_ ?_ _); rotate_left; (focus (dsimp only; first | omega | (simp only [size_ext, World.size_alloc, Array.size_append]; omega)))) | (with_reducible refine Grew.drewN ?_ _) | (with_reducible refine Grew.drew ?_)))) q⟩
  have d2 : decide (k < 0) = false := by simpa using c2
  by_cases c3 : x.rows ≤ i
  · have q : rowsOk x i k = false := by simp [rowsOk]; omega
    have d3 : decide (x.rows ≤ i) = true := by simpa using c3
    go_enter Try.func44, Try.ntmps44
    refine seq_stop ?_
    go_wp2
    refine stop_go (fun W hW => ?_)
    have s1 : w.heap.size < W.heap.size := by rw [hW]; simp only [World.size_alloc]; omega
    have b1 : ∀ i, W.cell? ⟨w.heap.size, i, none⟩ = (#[.slice (some ⟨g, 0, none⟩) x.ws.length cap, .int .i64 x.off, .int .i64 x.rows, .int .i64 x.cols, .int .i64 x.ld] : Array Value)[i]? := by intro i; rw [hW]; go_simp
    have g0 : Grew w W := by rw [hW]; exact (Grew.refl _).alloc _
    clear hW
    have hDW := hD.grew g0
    go_wp2_with (first | (go_at_call 130; ((with_reducible refine (good_any x _ _ ?_ Hw.out).mono ?_); (focus (first | (with_reducible assumption) | (with_reducible refine FS.ext ?_ _ _; with_reducible assumption) | (with_reducible refine IS.ext ?_ _ _; with_reducible assumption) | (refine hDu _ ?_; with_reducible assumption) | (refine hOu _ ?_; with_reducible assumption) | (refine hDa _ ?_; with_reducible assumption) | (refine hDb _ ?_; with_reducible assumption) | (refine hDc _ ?_; with_reducible assumption) | (refine hDd _ ?_; with_reducible assumption) | (refine FW.fs ?_ (by omega) _; with_reducible assumption) | (refine WS.fs ?_; with_reducible assumption) | (refine FW.fs ?_ (by omega) _; assumption) | omega | assumption)); rintro e w1 ⟨rfl, o1, n1, rfl⟩)))
    go_ret
    exact ⟨by unfold rowsE; rw [q]; rfl, No.out _ (by (show Grew _ _; repeat (first | (with_reducible exact Grew.refl _) | (with_reducible assumption) | (with_reducible exact Grew.same_o) | (with_reducible exact Grew.app_o) | (with_reducible refine Grew.ext ?_ _ _) | (with_reducible refine Grew.alloc ?_ _) | ((with_reducible refine Grew.setCell ?_ ?_ _); rotate_left; (focus (dsimp only; first | omega | (simp only [size_ext, World.size_alloc, Array.size_append]; omega)))) | (with_reducible refine Grew.drewN ?_ _) | (with_reducible refine Grew.drew ?_)))) q⟩
  have d3 : decide (x.rows ≤ i) = false := by simpa using c3
  by_cases c4 : x.rows ≤ k
  · have q : rowsOk x i k = false := by simp [rowsOk]; omega
    have d4 : decide (x.rows ≤ k) = true := by simpa using c4
    go_enter Try.func44, Try.ntmps44
    refine seq_stop ?_
    go_wp2
    refine stop_go (fun W hW => ?_)
    have s1 : w.heap.size < W.heap.size := by rw [hW]; simp only [World.size_alloc]; omega
    have b1 : ∀ i, W.cell? ⟨w.heap.size, i, none⟩ = (#[.slice (some ⟨g, 0, none⟩) x.ws.length cap, .int .i64 x.off, .int .i64 x.rows, .int .i64 x.cols, .int .i64 x.ld] : Array Value)[i]? := by intro i; rw [hW]; go_simp
    have g0 : Grew w W := by rw [hW]; exact (Grew.refl _).alloc _
    clear hW
    have hDW := hD.grew g0
    go_wp2_with (first | (go_at_call 130; ((with_reducible refine (good_any x _ _ ?_ Hw.out).mono ?_); (focus (first | (with_reducible assumption) | (with_reducible refine FS.ext ?_ _ _; with_reducible assumption) | (with_reducible refine IS.ext ?_ _ _; with_reducible assumption) | (refine hDu _ ?_; with_reducible assumption) | (refine hOu _ ?_; with_reducible assumption) | (refine hDa _ ?_; with_reducible assumption) | (refine hDb _ ?_; with_reducible assumption) | (refine hDc _ ?_; with_reducible assumption) | (refine hDd _ ?_; with_reducible assumption) | (refine FW.fs ?_ (by omega) _; with_reducible assumption) | (refine WS.fs ?_; with_reducible assumption) | (refine FW.fs ?_ (by omega) _; assumption) | omega | assumption)); rintro e w1 ⟨rfl, o1, n1, rfl⟩)))
    go_ret
    exact ⟨by unfold rowsE; rw [q]; rfl, No.out _ (by (show Grew _ _; repeat (first | (with_reducible exact Grew.refl _) | (with_reducible assumption) | (with_reducible exact Grew.same_o) | (with_reducible exact Grew.app_o) | (with_reducible refine Grew.ext ?_ _ _) | (with_reducible refine Grew.alloc ?_ _) | ((with_reducible refine Grew.setCell ?_ ?_ _); rotate_left; (focus (dsimp only; first | omega | (simp only [size_ext, World.size_alloc, Array.size_append]; omega)))) | (with_reducible refine Grew.drewN ?_ _) | (with_reducible refine Grew.drew ?_)))) q⟩
  have d4 : decide (x.rows ≤ k) = false := by simpa using c4
  have q : rowsOk x i k = true := by simp [rowsOk, Hgd.out]; omega
  by_cases c5 : i = k
  · subst c5
    go_enter Try.func44, Try.ntmps44
    refine seq_stop ?_
    go_wp2
    refine stop_go (fun W hW => ?_)
    have s1 : w.heap.size < W.heap.size := by rw [hW]; simp only [World.size_alloc]; omega
    have b1 : ∀ i, W.cell? ⟨w.heap.size, i, none⟩ = (#[.slice (some ⟨g, 0, none⟩) x.ws.length cap, .int .i64 x.off, .int .i64 x.rows, .int .i64 x.cols, .int .i64 x.ld] : Array Value)[i]? := by intro i; rw [hW]; go_simp
    have g0 : Grew w W := by rw [hW]; exact (Grew.refl _).alloc _
    clear hW
    have hDW := hD.grew g0
    go_wp2_with (first | (go_at_call 130; ((with_reducible refine (good_any x _ _ ?_ Hw.out).mono ?_); (focus (first | (with_reducible assumption) | (with_reducible refine FS.ext ?_ _ _; with_reducible assumption) | (with_reducible refine IS.ext ?_ _ _; with_reducible assumption) | (refine hDu _ ?_; with_reducible assumption) | (refine hOu _ ?_; with_reducible assumption) | (refine hDa _ ?_; with_reducible assumption) | (refine hDb _ ?_; with_reducible assumption) | (refine hDc _ ?_; with_reducible assumption) | (refine hDd _ ?_; with_reducible assumption) | (refine FW.fs ?_ (by omega) _; with_reducible assumption) | (refine WS.fs ?_; with_reducible assumption) | (refine FW.fs ?_ (by omega) _; assumption) | omega | assumption)); rintro e w1 ⟨rfl, o1, n1, rfl⟩)))
    go_ret
    exact ⟨by unfold rowsE; rw [q]; rfl, by unfold rowsL; simp only [ne_eq, not_true_eq_false, and_false, if_false]; exact Wrote.grew_r (Wrote.refl hF) (by (show Grew _ _; repeat (first | (with_reducible exact Grew.refl _) | (with_reducible assumption) | (with_reducible exact Grew.same_o) | (with_reducible exact Grew.app_o) | (with_reducible refine Grew.ext ?_ _ _) | (with_reducible refine Grew.alloc ?_ _) | ((with_reducible refine Grew.setCell ?_ ?_ _); rotate_left; (focus (dsimp only; first | omega | (simp only [size_ext, World.size_alloc, Array.size_append]; omega)))) | (with_reducible refine Grew.drewN ?_ _) | (with_reducible refine Grew.drew ?_))))⟩
  · have d5 : (i != k) = true := by simpa using c5
    have hL : rowsL x i k = swaps x.ws (rowV x i.toNat).place (rowV x k.toNat).place x.cols.toNat := by unfold rowsL; rw [if_pos ⟨q, c5⟩]
    obtain ⟨a, rfl⟩ : ∃ a : Nat, i = a := ⟨i.toNat, by omega⟩
    obtain ⟨b, rfl⟩ : ∃ b : Nat, k = b := ⟨k.toNat, by omega⟩
    have ha : (a : Int) < x.rows := by omega
    have hb : (b : Int) < x.rows := by omega
    have r1 := hid (rowV_right Hgd.out ha)
    have r2 := hid (rowV_right Hgd.out hb)
    have v1 := hid (rowV_wf Hgd.out Hw.out ha hl)
    have v2 := hid (rowV_wf Hgd.out Hw.out hb hl)
    have HL := hid hL
    have Q := hid q
    clear hL q
    go_enter Try.func44, Try.ntmps44
    refine seq_stop ?_
    go_wp2
    refine stop_go (fun W hW => ?_)
    have s1 : w.heap.size < W.heap.size := by rw [hW]; simp only [World.size_alloc]; omega
    have b1 : ∀ i, W.cell? ⟨w.heap.size, i, none⟩ = (#[.slice (some ⟨g, 0, none⟩) x.ws.length cap, .int .i64 x.off, .int .i64 x.rows, .int .i64 x.cols, .int .i64 x.ld] : Array Value)[i]? := by intro i; rw [hW]; go_simp
    have g0 : Grew w W := by rw [hW]; exact (Grew.refl _).alloc _
    clear hW
    have hDW := hD.grew g0
    have hFW := hF.grew g0
    have gl := hFW.lt
    have q1 : w.heap.size ≠ g := by omega
    obtain ⟨cs0, hs0, hcs0⟩ := hFW.self
    have HS := hid hs0
    clear hs0
    have hsw : ∀ o n, Calls Try.prog 131 #[.agg #[.slice (some ⟨g, 0, none⟩) x.ws.length cap, .int .i64 (rowV x a).off, .int .i64 x.cols, .int .i64 x.ld], .agg #[.slice (some ⟨g, 0, none⟩) x.ws.length cap, .int .i64 (rowV x b).off, .int .i64 x.cols, .int .i64 x.ld]] (ext (upd W g cs0) o n)
       (fun e w' => e = .returned (.tuple #[]) ∧ Wrote (ext (upd W g cs0) o n) w' g (swaps x.ws (rowV x a).place (rowV x b).place x.cols.toNat)) := fun o n =>
      swap1_any (rowV x a) (rowV x b) g cap _ (hFW.mk' hcs0 o n) rfl r1.out r2.out v1.out v2.out rfl hl
    have hD2 : ∀ o n, FS (ext (upd W g cs0) o n) (.slice (some ⟨g, 0, none⟩) x.ws.length cap) x.ws := fun o n => (hFW.mk' hcs0 o n).fs (by omega) cap
    go_wp2_with (first | (go_at_call 130; ((with_reducible refine (good_any x _ _ ?_ Hw.out).mono ?_); (focus (first | (with_reducible assumption) | (with_reducible refine FS.ext ?_ _ _; with_reducible assumption) | (with_reducible refine IS.ext ?_ _ _; with_reducible assumption) | (refine hDu _ ?_; with_reducible assumption) | (refine hOu _ ?_; with_reducible assumption) | (refine hDa _ ?_; with_reducible assumption) | (refine hDb _ ?_; with_reducible assumption) | (refine hDc _ ?_; with_reducible assumption) | (refine hDd _ ?_; with_reducible assumption) | (refine FW.fs ?_ (by omega) _; with_reducible assumption) | (refine WS.fs ?_; with_reducible assumption) | (refine FW.fs ?_ (by omega) _; assumption) | omega | assumption)); rintro e w1 ⟨rfl, o1, n1, rfl⟩)))
    rw [show ext W o1 n1 = ext (upd W g cs0) o1 n1 by rw [HS.out]]
    refine wp_region_R (Over W g) [] [(0,0), (0,1), (0,3), (0,4), (1,2), (1,5), (1,6)] (by kernel_rfl) (by kernel_rfl) (fun _ _ _ _ h _ => h) ⟨_, _, _, ext_drew⟩ ?_
    go_wp2_with (first
      | ((with_reducible refine wpR_id ?_); first | (refine wpR_take (v := ?_) rfl rfl ?_ ?_; rotate_left; (focus (rintro w' ⟨cs', o', n', rfl⟩; go_simp; try with_reducible rfl)); simp only [Act.put, List.setIfInBounds_toArray, List.set_cons_zero, List.set_cons_succ]) | (refine wpR_pure (v := ?_) rfl rfl ?_ ?_; rotate_left; (focus (intro w'; go_simp; try with_reducible rfl)); simp only [Act.put, List.setIfInBounds_toArray, List.set_cons_zero, List.set_cons_succ]) | (refine wpR_takeG (v := ?_) rfl rfl rfl rfl rfl ?_ ?_; rotate_left; (focus (rintro w' ⟨cs', o', n', rfl⟩; go_simp; try with_reducible rfl)); simp only [Act.put, List.setIfInBounds_toArray, List.set_cons_zero, List.set_cons_succ]) | (refine wpR_skip rfl rfl rfl rfl rfl rfl ?_; simp only [Act.put, List.setIfInBounds_toArray, List.set_cons_zero, List.set_cons_succ]) | (refine wpR_skipU rfl rfl rfl rfl rfl ?_; simp only [Act.put, List.setIfInBounds_toArray, List.set_cons_zero, List.set_cons_succ]) | (refine wpR_do rfl rfl (fun K hK => ?_)) | (refine wpR_doG rfl rfl rfl rfl rfl (fun K hK => ?_)) | (refine wpR_last rfl rfl (fun K hK => ?_)) | (refine wpR_nil ?_)) | ((with_reducible refine wpR_go ?_ ?_); (focus exact ⟨_, _, _, rfl⟩)) | ((with_reducible refine upon_id ?_); refine upon_fop rfl (by assumption) (by assumption) ?_; intro rr nn hr)
      | (go_at_call 132; ((with_reducible refine (row_any x _ a _ (hD2 _ _) Hgd.out Hw.out ha).mono ?_); rintro e w1 ⟨rfl, o2, n2, rfl⟩))
      | (go_at_call 132; ((with_reducible refine (row_any x _ b _ (hD2 _ _) Hgd.out Hw.out hb).mono ?_); rintro e w1 ⟨rfl, o2, n2, rfl⟩))
      | (go_at_call 131; ((with_reducible refine (hsw _ _).mono ?_); rintro e w1 ⟨rfl, hw⟩; obtain ⟨cs2, o4, n4, rfl, hcs2⟩ := Wrote.trans ⟨cs0, _, _, rfl, hcs0⟩ gl hw)))
    go_ret
    exact ⟨by unfold rowsE; rw [Q.out]; rfl, Wrote.grew_l g0 (by omega) ⟨cs2, _, _, rfl, by rw [HL.out]; exact hcs2⟩⟩
end Go.Proofs.Ytcmggfpcbijcjaa
end
section
/-
  How the laws' arguments read: slices of floats and of integers, vectors, matrices.
-/
set_option linter.unusedSimpArgs false
set_option linter.unusedVariables false
namespace Sedge
open Go Go.RowKit Go.ChangeShapes Go.WideShapes Go.Deep

/-- The slice v reads, in w, as the integers zs of a kind. -/
def IS (k : IntKind) (w : World) (v : Value) (zs : List Int) : Prop :=
  zs.length ≤ 9223372036854775807 ∧ ∃ a cap, v = .slice a zs.length cap ∧
    ∀ i, i < zs.length → ∃ blk o, a = some ⟨blk, o, none⟩ ∧ w.cell? ⟨blk, o + i, none⟩ = some (.int k (zs.getD i 0))
theorem IS.len {k : IntKind} {w : World} {v : Value} {zs : List Int} (h : IS k w v zs) : zs.length ≤ 9223372036854775807 := h.1
theorem IS.shape {k : IntKind} {w : World} {v : Value} {zs : List Int} (h : IS k w v zs) : ∃ a cap, v = .slice a zs.length cap := by
  obtain ⟨_, a, cap, rfl, _⟩ := h; exact ⟨a, cap, rfl⟩
theorem IS.at {k : IntKind} {w : World} {a : Option Addr} {n cap : Nat} {zs : List Int} (h : IS k w (.slice a n cap) zs) : n = zs.length ∧ (0 < zs.length → ∃ blk o, a = some ⟨blk, o, none⟩ ∧ blk < w.heap.size ∧
      ∀ i, i < zs.length → w.cell? ⟨blk, o + i, none⟩ = some (.int k (zs.getD i 0))) := by
  obtain ⟨_, a', cap', e, hc⟩ := h
  cases e
  refine ⟨rfl, fun hn => ?_⟩
  obtain ⟨blk, o, rfl, h1⟩ := hc 0 hn
  refine ⟨blk, o, rfl, World.block_lt_of_cell? w _ h1, fun i hi => ?_⟩
  obtain ⟨blk', o', he, h1'⟩ := hc i hi
  cases he
  exact h1'
theorem IS.same {k : IntKind} {w w' : World} {v : Value} {zs : List Int} (h : IS k w v zs) (hs : ∀ a : Addr, a.block < w.heap.size → w'.cell? a = w.cell? a) : IS k w' v zs := by
  obtain ⟨hl, a, cap, hv, hc⟩ := h
  refine ⟨hl, a, cap, hv, fun i hi => ?_⟩
  obtain ⟨blk, o, h0, h1⟩ := hc i hi
  exact ⟨blk, o, h0, by rw [hs _ (World.block_lt_of_cell? w _ h1)]; exact h1⟩
theorem IS.grew {k : IntKind} {w w' : World} {v : Value} {zs : List Int} (h : IS k w v zs) (g : Grew w w') : IS k w' v zs := h.same fun _ ha => g.below.cell ha
theorem IS.ext {k : IntKind} {w : World} {v : Value} {zs : List Int} (h : IS k w v zs) (o : Array Obj) (n : Nat) : IS k (ext w o n) v zs := h.grew ⟨_, _, rfl⟩
theorem IS.alloc {k : IntKind} {w : World} {v : Value} {zs : List Int} (h : IS k w v zs) (o : Obj) : IS k (w.alloc o) v zs := h.grew ((Grew.refl _).alloc o)

section
variable {H : Type} {enc : TypeId × Value → H} {P : Program} {w : World} {base : Nat} {spare : Nat → Bool} {held : Bool}

def bitsAt (w : World) (a : Addr) (i : Nat) : Nat := match w.cell? (a.add i) with
  | some (.float _ b) => b
  | _ => 0

theorem trod_float {t : TypeId} {fuel : Nat} {cs : List Value} {x : DataW H × List MemPlace} (ht : P.underlying t = some (.float .f64)) (h : DataW.trod enc P w base spare held fuel t cs = some x) :
    ∃ b, cs = [.float .f64 b] ∧ b < 2 ^ 64 := by
  cases fuel with
  | zero => simp [DataW.trod] at h
  | succ n =>
    unfold DataW.trod at h
    rw [ht] at h
    split at h <;> simp_all
    all_goals
      rename_i hk
      obtain ⟨⟨_, hw⟩, _⟩ := h
      subst hk
      simpa [Lit.wf] using hw

theorem add_zero_addr (a : Addr) : a.add 0 = a := by simp [Addr.add]
theorem add_none {a : Addr} (h : a.spot = none) (i : Nat) : a.add i = ⟨a.block, a.off + i, none⟩ := by
  unfold Addr.add
  split
  · rename_i h0; subst h0; cases a; simp at h; subst h; rfl
  · rfl

theorem openF {t e : TypeId} {fuel : Nat} {v : Value} {x : DataW H × List MemPlace} (ht : P.underlying t = some (.slice e)) (he : P.underlying e = some (.float .f64)) (hc : P.cellsOf e = 1)
    (h : DataW.trod enc P w base spare held fuel t [v] = some x) : ∃ ws, FS w v ws := by
  rcases DataW.trod_slice ht h with ⟨h0, _⟩ | ⟨a, len, cap, elems, rest, n, _, h0, _, _, hl, hm, hlen, hel, _, _⟩
  · obtain rfl : v = .slice none 0 0 := by simpa using h0
    exact ⟨[], FS.nil w⟩
  · obtain rfl : v = .slice (some a) len cap := by simpa using h0
    have each : ∀ i, i < len → ∃ b, w.cell? (a.add i) = some (.float .f64 b) ∧ b < 2 ^ 64 := by
      intro i hi
      have h1 := hel i hi
      rw [List.getElem?_eq_getElem (by omega), hc, Nat.mul_one, Option.bind_eq_some_iff] at h1
      obtain ⟨cs', hcs, hy⟩ := h1
      obtain ⟨b, rfl, hb⟩ := trod_float he hy
      exact ⟨b, cell_of_cells?_one hcs, hb⟩
    refine ⟨(List.range len).map fun i => canon (bitsAt w a i), by simp [maxLen] at hm ⊢; omega, some a, cap, by simp, (fun h => by cases h), fun i hi => ?_⟩
    have hi' : i < len := by simpa using hi
    obtain ⟨b0, hb0, _⟩ := each 0 (by omega)
    rw [add_zero_addr] at hb0
    have hs := World.cell?_spot hb0
    obtain ⟨b, hb, hlt⟩ := each i hi'
    refine ⟨a.block, a.off, b, ?_, ?_, hlt, ?_⟩
    · cases a; simp at hs; subst hs; rfl
    · rw [← add_none hs]; exact hb
    · simp [List.getD_eq_getElem?_getD, hi', bitsAt, hb]

theorem openI {k : IntKind} {t e : TypeId} {fuel : Nat} {v : Value} {x : DataW H × List MemPlace} (ht : P.underlying t = some (.slice e)) (he : P.underlying e = some (.int k)) (hc : P.cellsOf e = 1)
    (h : DataW.trod enc P w base spare held fuel t [v] = some x) : ∃ zs, IS k w v zs ∧ ∀ z ∈ zs, k.min ≤ z ∧ z ≤ k.max := by
  rcases DataW.trod_slice ht h with ⟨h0, _⟩ | ⟨a, len, cap, elems, rest, n, _, h0, _, _, hl, hm, hlen, hel, _, _⟩
  · obtain rfl : v = .slice none 0 0 := by simpa using h0
    exact ⟨[], ⟨by simp, none, 0, rfl, fun i hi => by simp at hi⟩, fun z hz => by simp at hz⟩
  · obtain rfl : v = .slice (some a) len cap := by simpa using h0
    have each : ∀ i, i < len → ∃ b, w.cell? (a.add i) = some (.int k b) ∧ (Lit.int k b).wf = true := by
      intro i hi
      have h1 := hel i hi
      rw [List.getElem?_eq_getElem (by omega), hc, Nat.mul_one, Option.bind_eq_some_iff] at h1
      obtain ⟨cs', hcs, hy⟩ := h1
      obtain ⟨b, rfl, _, hb⟩ := DataW.trod_int he hy
      exact ⟨b, cell_of_cells?_one hcs, hb⟩
    let f : Nat → Int := fun i => match w.cell? (a.add i) with | some (.int _ b) => b | _ => 0
    refine ⟨(List.range len).map f, ⟨by simp [maxLen] at hm ⊢; omega, some a, cap, by simp, fun i hi => ?_⟩, fun z hz => ?_⟩
    · have hi' : i < len := by simpa using hi
      obtain ⟨b0, hb0, _⟩ := each 0 (by omega)
      rw [add_zero_addr] at hb0
      have hs := World.cell?_spot hb0
      obtain ⟨b, hb, _⟩ := each i hi'
      refine ⟨a.block, a.off, ?_, ?_⟩
      · cases a; simp at hs; subst hs; rfl
      · rw [← add_none hs, hb]
        simp [List.getD_eq_getElem?_getD, hi', f, hb]
    · obtain ⟨i, hi, rfl⟩ := List.mem_map.1 hz
      obtain ⟨b, hb, hw⟩ := each i (by simpa using hi)
      have : f i = b := by simp only [f, hb]
      rw [this]
      simpa [Lit.wf] using hw
theorem open_i64 {t : TypeId} {fuel : Nat} {v : Value} {x : DataW H × List MemPlace} (ht : P.underlying t = some (.int .i64)) (h : DataW.trod enc P w base spare held fuel t [v] = some x) :
    ∃ z, v = .int .i64 z ∧ I64 z := by
  obtain ⟨z, hv, _, hw⟩ := DataW.trod_int ht h
  refine ⟨z, by simpa using hv, ?_⟩
  simpa [Lit.wf, I64, IntKind.min, IntKind.max, IntKind.signed, IntKind.bits] using hw

/-- An aggregate of one-cell fields: each field's own cell and reading. -/
theorem open_fields {r : Reach} {b0 : Nat} {t : TypeId} {fs : Array Field} {v : Value} {d : DataW H} {p : List MemPlace} (hs : P.underlying t = some (.struct fs)) (hone : oneCellFields P fs = true)
    (hv : Value.okWide P w r b0 t v) (h : DataW.Trod enc P w base spare held t v d p) :
    ∃ cs : List Value, v = .agg cs.toArray ∧ cs.length = P.cellsOf t ∧ ∀ (i : Nat) (f : Field), fs[i]? = some f → ∀ c, cs[i]? = some c → ∃ n y, DataW.trod enc P w base spare held n f.type [c] = some y := by
  obtain ⟨cs, rfl, hsz⟩ := okWide_struct hs hv
  obtain ⟨fuel, hf⟩ := h
  obtain ⟨xs, n, _, _, _, hlen, hg⟩ := DataW.trod_struct hs hf
  refine ⟨cs.toList, by simp, by simpa using hsz, fun i f hi c hc => ?_⟩
  obtain ⟨o, k⟩ := hone_of hone i f hi
  have h1 := hg i f hi
  have hlt : i < fs.size := (Array.getElem?_eq_some_iff.1 hi).1
  rw [o, k, List.getElem?_eq_getElem (by omega)] at h1
  refine ⟨n, xs[i], ?_⟩
  rw [← h1]
  congr 1
  have hl : i < cs.toList.length := (List.getElem?_eq_some_iff.1 hc).1
  have hci := (List.getElem?_eq_some_iff.1 hc).2
  show [c] = List.take 1 (List.drop i cs.toList)
  rw [List.drop_eq_getElem_cons hl, hci]
  rfl

theorem openVec {r : Reach} {b0 : Nat} {t tD tE tI : TypeId} {fs : Array Field} {v : Value} {d : DataW H} {p : List MemPlace} (hs : P.underlying t = some (.struct fs)) (hone : oneCellFields P fs = true)
    (hf : fs.toList.map (·.type) = [tD, tI, tI, tI]) (hC : P.cellsOf t = 4) (hD : P.underlying tD = some (.slice tE)) (hE : P.underlying tE = some (.float .f64)) (hE1 : P.cellsOf tE = 1) (hI : P.underlying tI = some (.int .i64))
    (hv : Value.okWide P w r b0 t v) (h : DataW.Trod enc P w base spare held t v d p) :
    ∃ (m : VecM) (D : Value), v = .agg #[D, .int .i64 m.off, .int .i64 m.n, .int .i64 m.inc] ∧ FS w D m.ws ∧ m.wf := by
  obtain ⟨cs, rfl, hl, hg⟩ := open_fields hs hone hv h
  match cs, hl.trans hC with
  | [c0, c1, c2, c3], _ =>
    obtain ⟨fs⟩ := fs
    have hlen : fs.length = 4 := by simpa using congrArg List.length hf
    match fs, hf, hlen with
    | [f0, f1, f2, f3], hf, _ =>
      simp at hf
      obtain ⟨e0, e1, e2, e3⟩ := hf
      obtain ⟨n0, y0, h0⟩ := hg 0 f0 rfl c0 rfl
      obtain ⟨n1, y1, h1⟩ := hg 1 f1 rfl c1 rfl
      obtain ⟨n2, y2, h2⟩ := hg 2 f2 rfl c2 rfl
      obtain ⟨n3, y3, h3⟩ := hg 3 f3 rfl c3 rfl
      rw [e0] at h0; rw [e1] at h1; rw [e2] at h2; rw [e3] at h3
      obtain ⟨ws, hw⟩ := openF hD hE hE1 h0
      obtain ⟨z1, rfl, w1⟩ := open_i64 hI h1
      obtain ⟨z2, rfl, w2⟩ := open_i64 hI h2
      obtain ⟨z3, rfl, w3⟩ := open_i64 hI h3
      exact ⟨⟨ws, z1, z2, z3⟩, c0, rfl, hw, w1, w2, w3⟩
theorem openMat {r : Reach} {b0 : Nat} {t tD tE tI : TypeId} {fs : Array Field} {v : Value} {d : DataW H} {p : List MemPlace} (hs : P.underlying t = some (.struct fs)) (hone : oneCellFields P fs = true)
    (hf : fs.toList.map (·.type) = [tD, tI, tI, tI, tI]) (hC : P.cellsOf t = 5) (hD : P.underlying tD = some (.slice tE)) (hE : P.underlying tE = some (.float .f64)) (hE1 : P.cellsOf tE = 1) (hI : P.underlying tI = some (.int .i64))
    (hv : Value.okWide P w r b0 t v) (h : DataW.Trod enc P w base spare held t v d p) :
    ∃ (m : MatM) (D : Value), v = .agg #[D, .int .i64 m.off, .int .i64 m.rows, .int .i64 m.cols, .int .i64 m.ld] ∧ FS w D m.ws ∧ m.wf := by
  obtain ⟨cs, rfl, hl, hg⟩ := open_fields hs hone hv h
  match cs, hl.trans hC with
  | [c0, c1, c2, c3, c4], _ =>
    obtain ⟨fs⟩ := fs
    have hlen : fs.length = 5 := by simpa using congrArg List.length hf
    match fs, hf, hlen with
    | [f0, f1, f2, f3, f4], hf, _ =>
      simp at hf
      obtain ⟨e0, e1, e2, e3, e4⟩ := hf
      obtain ⟨n0, y0, h0⟩ := hg 0 f0 rfl c0 rfl
      obtain ⟨n1, y1, h1⟩ := hg 1 f1 rfl c1 rfl
      obtain ⟨n2, y2, h2⟩ := hg 2 f2 rfl c2 rfl
      obtain ⟨n3, y3, h3⟩ := hg 3 f3 rfl c3 rfl
      obtain ⟨n4, y4, h4⟩ := hg 4 f4 rfl c4 rfl
      rw [e0] at h0; rw [e1] at h1; rw [e2] at h2; rw [e3] at h3; rw [e4] at h4
      obtain ⟨ws, hw⟩ := openF hD hE hE1 h0
      obtain ⟨z1, rfl, w1⟩ := open_i64 hI h1
      obtain ⟨z2, rfl, w2⟩ := open_i64 hI h2
      obtain ⟨z3, rfl, w3⟩ := open_i64 hI h3
      obtain ⟨z4, rfl, w4⟩ := open_i64 hI h4
      exact ⟨⟨ws, z1, z2, z3, z4⟩, c0, rfl, hw, w1, w2, w3, w4⟩
end
end Sedge
end
section
/-
  Contracts: the reference's rows that change places (layer 4); rows, one pair behind the other.
-/
set_option linter.unusedSimpArgs false
set_option linter.unusedVariables false
open Go Go.RowKit Sedge
namespace Go.Proofs.Ytcmggfpcbijcjaa
def rrowsL (C : Nat) (l : List Nat) (i k : Nat) : List Nat := swaps l (fun t => i * C + t) (fun t => k * C + t) C
@[simp] theorem rrowsL_length (C : Nat) (l : List Nat) (i k : Nat) : (rrowsL C l i k).length = l.length := by unfold rrowsL; simp
set_option maxRecDepth 100000 in
set_option maxHeartbeats 2000000 in
/-- straightedgeref04.Rows. -/
theorem rrows_any (R C i k g cap : Nat) (ws : List Nat) (w : World) (hF : FW w g ws) (hlen : ws.length = R * C) (hR : R ≤ 1000) (hC : C ≤ 1000) (hi : i < R) (hk : k < R) :
   Calls Try.prog 49 #[.agg #[.int .i64 R, .int .i64 C, .slice (some ⟨g, 0, none⟩) (R * C) cap], .int .i64 i, .int .i64 k] w
     (fun e w' => e = .returned (.tuple #[]) ∧ Wrote w w' g (rrowsL C ws i k)) := by
  have hm : R * C ≤ 1000 * 1000 := Nat.mul_le_mul hR hC
  have Hm := hid hm
  have hltg := hF.lt
  clear hm
  go_enter Try.func49, Try.ntmps49
  refine seq_stop ?_
  go_wp2
  refine stop_go (fun W hW => ?_)
  have s1 : w.heap.size < W.heap.size := by rw [hW]; simp only [World.size_alloc]; omega
  have b1 : ∀ i, W.cell? ⟨w.heap.size, i, none⟩ = (#[.int .i64 R, .int .i64 C, .slice (some ⟨g, 0, none⟩) (R * C) cap] : Array Value)[i]? := by intro i; rw [hW]; go_simp
  have f1 : ∀ i, W.frozen? ⟨w.heap.size, i, none⟩ = false := by intro i; rw [hW]; go_simp
  have g0 : Grew w W := by rw [hW]; exact (Grew.refl _).alloc _
  clear hW
  have hFW := hF.grew g0
  have gl := hFW.lt
  have q1 : w.heap.size ≠ g := by omega
  go_wp2
  go_loopw [6] (fun c wr => ∃ (j : Nat) (cs : Array Value) (o : Array Obj) (n : Nat), j ≤ C ∧ c = .int .i64 j ∧ wr = ext (upd W g cs) o n ∧ CF cs (swaps ws (fun t => i * C + t) (fun t => k * C + t) j)) (fun c _ => C - (intOf c).toNat)
  case atStart =>
    obtain ⟨cs, h1, h2⟩ := hFW.self
    exact ⟨0, cs, #[], _, Nat.zero_le _, rfl, by rw [h1]; exact ext_zero.symm, h2⟩
  case round =>
    obtain ⟨j, cs, o2, n2, hj, rfl, hwr, hcs⟩ := hrel
    subst hwr
    by_cases hltj : j < C
    · have hat := at_lt hi hltj
      have hbt := at_lt hk hltj
      obtain ⟨S, hS⟩ : ∃ S, S = swaps ws (fun t => i * C + t) (fun t => k * C + t) j := ⟨_, rfl⟩
      rw [← hS] at hcs
      have hlS : S.length = R * C := by rw [hS]; simp [hlen]
      have HS := hid hS
      clear hS
      have hfw : ∀ o n, FW (ext (upd W g cs) o n) g S := fun o n => hFW.mk' hcs o n
      have hfs : ∀ o n, FS (ext (upd W g cs) o n) (.slice (some ⟨g, 0, none⟩) (R * C) cap) S := fun o n => by have h := (hfw o n).fs (by have := Hm.out; omega) cap; rw [hlS] at h; exact h
      go_wp2
      refine wp_region_R (Over W g) [] [(0,0), (0,1), (0,2), (0,4), (0,5), (0,6), (1,3), (1,7), (0,8), (0,9)] (by kernel_rfl) (by kernel_rfl) (fun _ _ _ _ h _ => h) ⟨_, _, _, ext_drew⟩ ?_
      go_wp2_with (first
        | ((with_reducible refine wpR_id ?_); first | (refine wpR_take (v := ?_) rfl rfl ?_ ?_; rotate_left; (focus (rintro w' ⟨cs', o', n', rfl⟩; go_simp; try with_reducible rfl)); simp only [Act.put, List.setIfInBounds_toArray, List.set_cons_zero, List.set_cons_succ]) | (refine wpR_pure (v := ?_) rfl rfl ?_ ?_; rotate_left; (focus (intro w'; go_simp; try with_reducible rfl)); simp only [Act.put, List.setIfInBounds_toArray, List.set_cons_zero, List.set_cons_succ]) | (refine wpR_takeG (v := ?_) rfl rfl rfl rfl rfl ?_ ?_; rotate_left; (focus (rintro w' ⟨cs', o', n', rfl⟩; go_simp; try with_reducible rfl)); simp only [Act.put, List.setIfInBounds_toArray, List.set_cons_zero, List.set_cons_succ]) | (refine wpR_skip rfl rfl rfl rfl rfl rfl ?_; simp only [Act.put, List.setIfInBounds_toArray, List.set_cons_zero, List.set_cons_succ]) | (refine wpR_skipU rfl rfl rfl rfl rfl ?_; simp only [Act.put, List.setIfInBounds_toArray, List.set_cons_zero, List.set_cons_succ]) | (refine wpR_do rfl rfl (fun K hK => ?_)) | (refine wpR_doG rfl rfl rfl rfl rfl (fun K hK => ?_)) | (refine wpR_last rfl rfl (fun K hK => ?_)) | (refine wpR_nil ?_)) | ((with_reducible refine wpR_go ?_ ?_); (focus exact ⟨_, _, _, rfl⟩)) | ((with_reducible refine upon_id ?_); refine upon_fop rfl (by assumption) (by assumption) ?_; intro rr nn hr)
        | (go_at_call 72; ((with_reducible refine (rat_any R C i j _ S _ (hfs _ _) hR hC ?_ ?_ ?_).mono ?_); (focus omega); (focus omega); (focus omega); rintro e w1 ⟨b, rfl, hb, o3, n3, rfl⟩))
        | (go_at_call 72; ((with_reducible refine (rat_any R C k j _ S _ (hfs _ _) hR hC ?_ ?_ ?_).mono ?_); (focus omega); (focus omega); (focus omega); rintro e w1 ⟨d, rfl, hd, o3, n3, rfl⟩)))
      go_wp2_with (go_at_call 134; ((with_reducible refine (rset_any R C i j g cap (R * C) d _ _ _ (hfw _ _) hd hlS.symm hR hC ?_ ?_ ?_).mono ?_); (focus omega); (focus omega); (focus omega); rintro e w1 ⟨rfl, hw⟩; obtain ⟨cs2, o4, n4, rfl, hcs2⟩ := Wrote.trans ⟨cs, _, _, rfl, hcs⟩ gl hw))
      go_wp2_with (go_at_call 134; ((with_reducible refine (rset_any R C k j g cap (R * C) b _ _ _ (hFW.mk' hcs2 _ _) hb (by simp [hlS]) hR hC ?_ ?_ ?_).mono ?_); (focus omega); (focus omega); (focus (simp only [List.length_set]; omega)); rintro e w1 ⟨rfl, hw2⟩; obtain ⟨cs3, o5, n5, rfl, hcs3⟩ := Wrote.trans ⟨cs2, _, _, rfl, hcs2⟩ gl hw2))
      go_roundw
      case rel =>
        refine ⟨j + 1, cs3, _, _, by omega, by go_num, rfl, ?_⟩
        unfold swaps
        rw [← HS.out]; exact hcs3
      case measure => simp [intOf]; omega
    · have e : C = j := by omega
      go_wp2
      go_end0
      exact ⟨rfl, Wrote.grew_l g0 (by omega) ⟨cs, _, _, rfl, by unfold rrowsL; rw [e] at hcs ⊢; exact hcs⟩⟩
/-- The pairs (0, z0), (1, z1), ..: what is done to the table. -/
def rtakeTo (C : Nat) (l : List Nat) (zs : List Int) : Nat → List Nat
  | 0 => l
  | k + 1 => rrowsL C (rtakeTo C l zs k) k (zs.getD k 0).toNat
@[simp] theorem rtakeTo_length (C : Nat) (l : List Nat) (zs : List Int) : ∀ k, (rtakeTo C l zs k).length = l.length
  | 0 => rfl
  | k + 1 => by unfold rtakeTo; rw [rrowsL_length, rtakeTo_length C l zs k]
/-- Are the first k of the order in range? -/
def ordTo (R : Int) (zs : List Int) : Nat → Bool
  | 0 => true
  | k + 1 => ordTo R zs k && decide ((k : Int) ≤ zs.getD k 0) && decide (zs.getD k 0 < R)
theorem ordTo_at {R : Int} {zs : List Int} : ∀ {n : Nat}, ordTo R zs n = true → ∀ k, k < n → (k : Int) ≤ zs.getD k 0 ∧ zs.getD k 0 < R
  | 0, _, k, hk => absurd hk (by omega)
  | n + 1, h, k, hk => by
    simp only [ordTo, Bool.and_eq_true, decide_eq_true_eq] at h
    rcases Nat.lt_or_ge k n with h1 | h1
    · exact ordTo_at h.1.1 k h1
    · obtain rfl : k = n := by omega
      exact ⟨h.1.2, h.2⟩
theorem ordTo_false {R : Int} {zs : List Int} {n : Nat} (h : ordTo R zs n = false) : ∀ m, n ≤ m → ordTo R zs m = false
  | 0, hm => by obtain rfl : n = 0 := by omega
                exact h
  | m + 1, hm => by
    rcases Nat.lt_or_ge m n with h1 | h1
    · obtain rfl : n = m + 1 := by omega
      exact h
    · simp [ordTo, ordTo_false h m h1]
def takeE (R : Int) (zs : List Int) : Int := if R < zs.length then 3 else if ordTo R zs zs.length = true then 0 else 1
theorem takeE_1 {R : Int} {zs : List Int} (h : ¬ R < zs.length) (q : ordTo R zs zs.length = false) : takeE R zs = 1 := by
  unfold takeE; rw [if_neg h, if_neg (by rw [q]; decide)]
def rtakeL (R C : Nat) (l : List Nat) (zs : List Int) : List Nat := if takeE R zs = 0 then rtakeTo C l zs zs.length else l
set_option maxRecDepth 100000 in
set_option maxHeartbeats 2000000 in
/-- straightedgeref04.Take. -/
theorem rtake_any (R C g cap : Nat) (ws : List Nat) (O : Value) (zs : List Int) (w : World) (hF : FW w g ws) (hO : IS .i64 w O zs) (hng : ∀ a l c, 0 < zs.length → O = .slice (some a) l c → a.block < g) (hlen : ws.length = R * C) (hR : R ≤ 1000) (hC : C ≤ 1000) :
   Calls Try.prog 50 #[.agg #[.int .i64 R, .int .i64 C, .slice (some ⟨g, 0, none⟩) (R * C) cap], O] w
     (fun e w' => e = .returned (.int .i64 (takeE R zs)) ∧ Wrote w w' g (rtakeL R C ws zs)) := by
  have hltg := hF.lt
  obtain ⟨aO, capO, rfl⟩ := hO.shape
  have hlO := hO.len
  by_cases c1 : (R : Int) < zs.length
  · have q : takeE R zs = 3 := by simp [takeE, c1]
    have q2 : rtakeL R C ws zs = ws := by simp [rtakeL, q]
    rw [q, q2]
    go_enter Try.func50, Try.ntmps50
    go_wp2
    go_ret
    exact ⟨rfl, Wrote.grew_r (Wrote.refl hF) (by (show Grew _ _; repeat (first | (with_reducible exact Grew.refl _) | (with_reducible assumption) | (with_reducible exact Grew.same_o) | (with_reducible exact Grew.app_o) | (with_reducible refine Grew.ext ?_ _ _) | (with_reducible refine Grew.alloc ?_ _) | ((with_reducible refine Grew.setCell ?_ ?_ _); rotate_left; (focus (dsimp only; first | omega | (simp only [size_ext, World.size_alloc, Array.size_append]; omega)))) | (with_reducible refine Grew.drewN ?_ _) | (with_reducible refine Grew.drew ?_))))⟩
  · have hlR : zs.length ≤ R := by omega
    have dn : decide (R < zs.length) = false := by simp; omega
    have dI : decide ((R : Int) < (zs.length : Int)) = false := by simp; omega
    have HO := hid hO
    clear hO
    go_enter Try.func50, Try.ntmps50
    refine seq_stop ?_
    go_wp2
    refine stop_go (fun W hW => ?_)
    have s1 : w.heap.size < W.heap.size := by rw [hW]; simp only [World.size_alloc]; omega
    have b1 : ∀ i, W.cell? ⟨w.heap.size, i, none⟩ = (#[.int .i64 R, .int .i64 C, .slice (some ⟨g, 0, none⟩) (R * C) cap] : Array Value)[i]? := by intro i; rw [hW]; go_simp
    have f1 : ∀ i, W.frozen? ⟨w.heap.size, i, none⟩ = false := by intro i; rw [hW]; go_simp
    have g0 : Grew w W := by rw [hW]; exact (Grew.refl _).alloc _
    clear hW
    have hOW : IS .i64 W (.slice aO zs.length capO) zs := HO.out.grew g0
    have hFW := hF.grew g0
    have gl := hFW.lt
    have q1 : w.heap.size ≠ g := by omega
    have HOW := hid hOW
    clear hOW
    go_wp2
    go_loopw [5] (fun c wr => ∃ (i : Nat) (o : Array Obj) (n : Nat), i ≤ zs.length ∧ c = .int .i64 i ∧ wr = ext W o n ∧ ordTo R zs i = true) (fun c _ => zs.length - (intOf c).toNat)
    case atStart => exact ⟨0, #[], _, Nat.zero_le _, rfl, ext_zero.symm, rfl⟩
    case round =>
      obtain ⟨i, o1, n1, hi, rfl, hwr, hord⟩ := hrel
      subst hwr
      have Hord := hid hord
      clear hord
      by_cases hlt : i < zs.length
      · obtain ⟨blk, o, rfl, hblk, hc⟩ := HOW.out.at.2 (by omega)
        have hb := hc i hlt
        obtain ⟨z, hz⟩ : ∃ z, z = zs.getD i 0 := ⟨_, rfl⟩
        rw [← hz] at hb
        have hstep : ordTo R zs (i + 1) = (decide ((i : Int) ≤ z) && decide (z < R)) := by rw [ordTo, Hord.out, ← hz]; simp
        have Hst := hid hstep
        have Hz := hid hz
        clear hc hstep hz
        by_cases e1 : z < (i : Int)
        · have d1 : decide (z < (i : Int)) = true := by simpa using e1
          have q0 := ordTo_false (n := i + 1) (by rw [Hst.out]; simp; omega) zs.length (by omega)
          have q := hid (takeE_1 (by omega) q0)
          have q2 := hid (show rtakeL R C ws zs = ws by unfold rtakeL; rw [q.out]; rfl)
          clear q0
          go_wp2
          refine wp_region_R (Grew W) [] [(0,0), (0,1), (0,2), (0,3), (0,4), (0,5), (0,6), (0,7), (0,8), (0,9), (0,10), (0,11), (0,12), (0,13), (0,14)] (by kernel_rfl) (by kernel_rfl) (fun _ _ _ _ h _ => h) (by first | exact ⟨_, _, ext_drew⟩ | exact ⟨_, _, drew_ext0⟩ | (show Grew _ _; repeat (first | (with_reducible exact Grew.refl _) | (with_reducible assumption) | (with_reducible exact Grew.same_o) | (with_reducible exact Grew.app_o) | (with_reducible refine Grew.ext ?_ _ _) | (with_reducible refine Grew.alloc ?_ _) | ((with_reducible refine Grew.setCell ?_ ?_ _); rotate_left; (focus (dsimp only; first | omega | (simp only [size_ext, World.size_alloc, Array.size_append]; omega)))) | (with_reducible refine Grew.drewN ?_ _) | (with_reducible refine Grew.drew ?_)))) ?_
          go_wp2_with (first | ((with_reducible refine wpR_id ?_); first | (refine wpR_take (v := ?_) rfl rfl ?_ ?_; rotate_left; (focus (rintro w' ⟨o', n', rfl⟩; go_simp; try with_reducible rfl)); simp only [Act.put, List.setIfInBounds_toArray, List.set_cons_zero, List.set_cons_succ]) | (refine wpR_pure (v := ?_) rfl rfl ?_ ?_; rotate_left; (focus (intro w'; go_simp; try with_reducible rfl)); simp only [Act.put, List.setIfInBounds_toArray, List.set_cons_zero, List.set_cons_succ]) | (refine wpR_takeG (v := ?_) rfl rfl rfl rfl rfl ?_ ?_; rotate_left; (focus (rintro w' ⟨o', n', rfl⟩; go_simp; try with_reducible rfl)); simp only [Act.put, List.setIfInBounds_toArray, List.set_cons_zero, List.set_cons_succ]) | (refine wpR_skip rfl rfl rfl rfl rfl rfl ?_; simp only [Act.put, List.setIfInBounds_toArray, List.set_cons_zero, List.set_cons_succ]) | (refine wpR_skipU rfl rfl rfl rfl rfl ?_; simp only [Act.put, List.setIfInBounds_toArray, List.set_cons_zero, List.set_cons_succ]) | (refine wpR_do rfl rfl (fun K hK => ?_)) | (refine wpR_doG rfl rfl rfl rfl rfl (fun K hK => ?_)) | (refine wpR_last rfl rfl (fun K hK => ?_)) | (refine wpR_nil ?_)) | ((with_reducible refine wpR_go ?_ ?_); (focus exact ⟨_, _, rfl⟩)) | ((with_reducible refine upon_id ?_); refine upon_fop rfl (by assumption) (by assumption) ?_; intro rr nn hr))
          go_ret
          exact ⟨by rw [q.out]; rfl, by rw [q2.out]; exact Wrote.grew_r (Wrote.refl hF) (by (show Grew _ _; repeat (first | (with_reducible exact Grew.refl _) | (with_reducible assumption) | (with_reducible exact Grew.same_o) | (with_reducible exact Grew.app_o) | (with_reducible refine Grew.ext ?_ _ _) | (with_reducible refine Grew.alloc ?_ _) | ((with_reducible refine Grew.setCell ?_ ?_ _); rotate_left; (focus (dsimp only; first | omega | (simp only [size_ext, World.size_alloc, Array.size_append]; omega)))) | (with_reducible refine Grew.drewN ?_ _) | (with_reducible refine Grew.drew ?_))))⟩
        · have d1 : decide (z < (i : Int)) = false := by simpa using e1
          by_cases e2 : (R : Int) ≤ z
          · have d2 : decide ((R : Int) ≤ z) = true := by simpa using e2
            have q0 := ordTo_false (n := i + 1) (by rw [Hst.out]; simp; omega) zs.length (by omega)
            have q := hid (takeE_1 (by omega) q0)
            have q2 := hid (show rtakeL R C ws zs = ws by unfold rtakeL; rw [q.out]; rfl)
            clear q0
            go_wp2
            refine wp_region_R (Grew W) [] [(0,0), (0,1), (0,2), (0,3), (0,4), (0,5), (0,6), (0,7), (0,8), (0,9), (0,10), (0,11), (0,12), (0,13), (0,14)] (by kernel_rfl) (by kernel_rfl) (fun _ _ _ _ h _ => h) (by first | exact ⟨_, _, ext_drew⟩ | exact ⟨_, _, drew_ext0⟩ | (show Grew _ _; repeat (first | (with_reducible exact Grew.refl _) | (with_reducible assumption) | (with_reducible exact Grew.same_o) | (with_reducible exact Grew.app_o) | (with_reducible refine Grew.ext ?_ _ _) | (with_reducible refine Grew.alloc ?_ _) | ((with_reducible refine Grew.setCell ?_ ?_ _); rotate_left; (focus (dsimp only; first | omega | (simp only [size_ext, World.size_alloc, Array.size_append]; omega)))) | (with_reducible refine Grew.drewN ?_ _) | (with_reducible refine Grew.drew ?_)))) ?_
            go_wp2_with (first | ((with_reducible refine wpR_id ?_); first | (refine wpR_take (v := ?_) rfl rfl ?_ ?_; rotate_left; (focus (rintro w' ⟨o', n', rfl⟩; go_simp; try with_reducible rfl)); simp only [Act.put, List.setIfInBounds_toArray, List.set_cons_zero, List.set_cons_succ]) | (refine wpR_pure (v := ?_) rfl rfl ?_ ?_; rotate_left; (focus (intro w'; go_simp; try with_reducible rfl)); simp only [Act.put, List.setIfInBounds_toArray, List.set_cons_zero, List.set_cons_succ]) | (refine wpR_takeG (v := ?_) rfl rfl rfl rfl rfl ?_ ?_; rotate_left; (focus (rintro w' ⟨o', n', rfl⟩; go_simp; try with_reducible rfl)); simp only [Act.put, List.setIfInBounds_toArray, List.set_cons_zero, List.set_cons_succ]) | (refine wpR_skip rfl rfl rfl rfl rfl rfl ?_; simp only [Act.put, List.setIfInBounds_toArray, List.set_cons_zero, List.set_cons_succ]) | (refine wpR_skipU rfl rfl rfl rfl rfl ?_; simp only [Act.put, List.setIfInBounds_toArray, List.set_cons_zero, List.set_cons_succ]) | (refine wpR_do rfl rfl (fun K hK => ?_)) | (refine wpR_doG rfl rfl rfl rfl rfl (fun K hK => ?_)) | (refine wpR_last rfl rfl (fun K hK => ?_)) | (refine wpR_nil ?_)) | ((with_reducible refine wpR_go ?_ ?_); (focus exact ⟨_, _, rfl⟩)) | ((with_reducible refine upon_id ?_); refine upon_fop rfl (by assumption) (by assumption) ?_; intro rr nn hr))
            go_ret
            exact ⟨by rw [q.out]; rfl, by rw [q2.out]; exact Wrote.grew_r (Wrote.refl hF) (by (show Grew _ _; repeat (first | (with_reducible exact Grew.refl _) | (with_reducible assumption) | (with_reducible exact Grew.same_o) | (with_reducible exact Grew.app_o) | (with_reducible refine Grew.ext ?_ _ _) | (with_reducible refine Grew.alloc ?_ _) | ((with_reducible refine Grew.setCell ?_ ?_ _); rotate_left; (focus (dsimp only; first | omega | (simp only [size_ext, World.size_alloc, Array.size_append]; omega)))) | (with_reducible refine Grew.drewN ?_ _) | (with_reducible refine Grew.drew ?_))))⟩
          · have d2 : decide ((R : Int) ≤ z) = false := by simpa using e2
            go_wp2
            refine wp_region_R (Grew W) [] [(0,0), (0,1), (0,2), (0,3), (0,4), (0,5), (0,6), (0,7), (0,8), (0,9), (0,10), (0,11), (0,12), (0,13), (0,14)] (by kernel_rfl) (by kernel_rfl) (fun _ _ _ _ h _ => h) (by first | exact ⟨_, _, ext_drew⟩ | exact ⟨_, _, drew_ext0⟩ | (show Grew _ _; repeat (first | (with_reducible exact Grew.refl _) | (with_reducible assumption) | (with_reducible exact Grew.same_o) | (with_reducible exact Grew.app_o) | (with_reducible refine Grew.ext ?_ _ _) | (with_reducible refine Grew.alloc ?_ _) | ((with_reducible refine Grew.setCell ?_ ?_ _); rotate_left; (focus (dsimp only; first | omega | (simp only [size_ext, World.size_alloc, Array.size_append]; omega)))) | (with_reducible refine Grew.drewN ?_ _) | (with_reducible refine Grew.drew ?_)))) ?_
            go_wp2_with (first | ((with_reducible refine wpR_id ?_); first | (refine wpR_take (v := ?_) rfl rfl ?_ ?_; rotate_left; (focus (rintro w' ⟨o', n', rfl⟩; go_simp; try with_reducible rfl)); simp only [Act.put, List.setIfInBounds_toArray, List.set_cons_zero, List.set_cons_succ]) | (refine wpR_pure (v := ?_) rfl rfl ?_ ?_; rotate_left; (focus (intro w'; go_simp; try with_reducible rfl)); simp only [Act.put, List.setIfInBounds_toArray, List.set_cons_zero, List.set_cons_succ]) | (refine wpR_takeG (v := ?_) rfl rfl rfl rfl rfl ?_ ?_; rotate_left; (focus (rintro w' ⟨o', n', rfl⟩; go_simp; try with_reducible rfl)); simp only [Act.put, List.setIfInBounds_toArray, List.set_cons_zero, List.set_cons_succ]) | (refine wpR_skip rfl rfl rfl rfl rfl rfl ?_; simp only [Act.put, List.setIfInBounds_toArray, List.set_cons_zero, List.set_cons_succ]) | (refine wpR_skipU rfl rfl rfl rfl rfl ?_; simp only [Act.put, List.setIfInBounds_toArray, List.set_cons_zero, List.set_cons_succ]) | (refine wpR_do rfl rfl (fun K hK => ?_)) | (refine wpR_doG rfl rfl rfl rfl rfl (fun K hK => ?_)) | (refine wpR_last rfl rfl (fun K hK => ?_)) | (refine wpR_nil ?_)) | ((with_reducible refine wpR_go ?_ ?_); (focus exact ⟨_, _, rfl⟩)) | ((with_reducible refine upon_id ?_); refine upon_fop rfl (by assumption) (by assumption) ?_; intro rr nn hr))
            go_roundw
            case rel => exact ⟨i + 1, _, _, by omega, by go_num, rfl, by rw [Hst.out]; simp; omega⟩
            case measure => simp [intOf]; omega
      · have e : i = zs.length := by omega
        subst e
        have q := hid (show takeE R zs = 0 by unfold takeE; rw [if_neg (by omega), if_pos Hord.out])
        have q2 := hid (show rtakeL R C ws zs = rtakeTo C ws zs zs.length by unfold rtakeL; rw [if_pos q.out])
        have hFX := hFW.ext o1 n1
        go_wp2
        go_loopw [6] (fun c wr => ∃ (i : Nat) (cs : Array Value) (o : Array Obj) (n : Nat), i ≤ zs.length ∧ c = .int .i64 i ∧ wr = ext (upd W g cs) o n ∧ CF cs (rtakeTo C ws zs i)) (fun c _ => zs.length - (intOf c).toNat)
        case atStart =>
          obtain ⟨cs, h1, h2⟩ := hFW.self
          exact ⟨0, cs, o1, n1, Nat.zero_le _, rfl, by rw [h1], h2⟩
        case round =>
          obtain ⟨i, cs, o2, n2, hi, rfl, hwr, hcs⟩ := hrel
          subst hwr
          by_cases hlt : i < zs.length
          · obtain ⟨blk, o, rfl, hblk, hc⟩ := HOW.out.at.2 (by omega)
            have hb := hc i hlt
            have hz := ordTo_at Hord.out i hlt
            obtain ⟨z, hz2⟩ : ∃ z : Nat, zs.getD i 0 = z := ⟨(zs.getD i 0).toNat, by omega⟩
            have hl2 : (rtakeTo C ws zs i).length = R * C := by simp [hlen]
            have hz3 : (zs.getD i 0).toNat = z := by omega
            rw [hz2] at hb hz
            have Hz := hid hz3
            have qb : blk ≠ g := Nat.ne_of_lt (hng _ _ _ (by omega) rfl)
            clear hc hz2 hz3
            go_wp2
            refine wp_region_R (Over W g) [] [(0,0), (0,1), (0,2), (0,3), (0,4), (0,5), (1,6)] (by kernel_rfl) (by kernel_rfl) (fun _ _ _ _ h _ => h) ⟨_, _, _, ext_drew⟩ ?_
            go_wp2_with (first
              | ((with_reducible refine wpR_id ?_); first | (refine wpR_take (v := ?_) rfl rfl ?_ ?_; rotate_left; (focus (rintro w' ⟨cs', o', n', rfl⟩; go_simp; try with_reducible rfl)); simp only [Act.put, List.setIfInBounds_toArray, List.set_cons_zero, List.set_cons_succ]) | (refine wpR_pure (v := ?_) rfl rfl ?_ ?_; rotate_left; (focus (intro w'; go_simp; try with_reducible rfl)); simp only [Act.put, List.setIfInBounds_toArray, List.set_cons_zero, List.set_cons_succ]) | (refine wpR_takeG (v := ?_) rfl rfl rfl rfl rfl ?_ ?_; rotate_left; (focus (rintro w' ⟨cs', o', n', rfl⟩; go_simp; try with_reducible rfl)); simp only [Act.put, List.setIfInBounds_toArray, List.set_cons_zero, List.set_cons_succ]) | (refine wpR_skip rfl rfl rfl rfl rfl rfl ?_; simp only [Act.put, List.setIfInBounds_toArray, List.set_cons_zero, List.set_cons_succ]) | (refine wpR_skipU rfl rfl rfl rfl rfl ?_; simp only [Act.put, List.setIfInBounds_toArray, List.set_cons_zero, List.set_cons_succ]) | (refine wpR_do rfl rfl (fun K hK => ?_)) | (refine wpR_doG rfl rfl rfl rfl rfl (fun K hK => ?_)) | (refine wpR_last rfl rfl (fun K hK => ?_)) | (refine wpR_nil ?_)) | ((with_reducible refine wpR_go ?_ ?_); (focus exact ⟨_, _, _, rfl⟩)) | ((with_reducible refine upon_id ?_); refine upon_fop rfl (by assumption) (by assumption) ?_; intro rr nn hr)
              | (go_at_call 49; ((with_reducible refine (rrows_any R C i z g cap _ _ (hFW.mk' hcs _ _) hl2 hR hC ?_ ?_).mono ?_); (focus omega); (focus omega); rintro e w1 ⟨rfl, hw⟩; obtain ⟨cs2, o4, n4, rfl, hcs2⟩ := Wrote.trans ⟨cs, _, _, rfl, hcs⟩ gl hw)))
            go_roundw
            case rel =>
              refine ⟨i + 1, cs2, _, _, by omega, by go_num, rfl, ?_⟩
              unfold rtakeTo
              rw [Hz.out]; exact hcs2
            case measure => simp [intOf]; omega
          · have e : i = zs.length := by omega
            subst e
            go_wp2
            go_ret
            exact ⟨by rw [q.out]; rfl, by rw [q2.out]; exact Wrote.grew_l g0 (by omega) ⟨cs, _, _, rfl, hcs⟩⟩
end Go.Proofs.Ytcmggfpcbijcjaa
end
section
/-
  Contract: move.Take (layer 4).
-/
set_option linter.unusedSimpArgs false
set_option linter.unusedVariables false
open Go Go.RowKit Sedge
namespace Go.Proofs.Ytcmggfpcbijcjaa
/-- The matrix over another list. -/
def withL (m : MatM) (l : List Nat) : MatM := ⟨l, m.off, m.rows, m.cols, m.ld⟩
theorem withL_good {m : MatM} {l : List Nat} (h : l.length = m.ws.length) : (withL m l).good = m.good := by unfold withL MatM.good; simp only [h]
@[simp] theorem rowsL_length (m : MatM) (i k : Int) : (rowsL m i k).length = m.ws.length := by unfold rowsL; split <;> simp
def mtakeTo (m : MatM) (zs : List Int) : Nat → List Nat
  | 0 => m.ws
  | k + 1 => rowsL (withL m (mtakeTo m zs k)) k (zs.getD k 0)
@[simp] theorem mtakeTo_length (m : MatM) (zs : List Int) : ∀ k, (mtakeTo m zs k).length = m.ws.length
  | 0 => rfl
  | k + 1 => by unfold mtakeTo; rw [rowsL_length]; exact mtakeTo_length m zs k
def mtakeE (m : MatM) (zs : List Int) : Int := if m.good = true then takeE m.rows zs else 1
def mtakeL (m : MatM) (zs : List Int) : List Nat := if mtakeE m zs = 0 then mtakeTo m zs zs.length else m.ws
set_option maxRecDepth 100000 in
set_option maxHeartbeats 2000000 in
theorem take_any (x : MatM) (g cap : Nat) (O : Value) (zs : List Int) (w : World) (hF : FW w g x.ws) (hO : IS .i64 w O zs) (hng : ∀ a l c, 0 < zs.length → O = .slice (some a) l c → a.block < g) (hwf : x.wf) (hl : x.ws.length ≤ 1000000) :
   Calls Try.prog 45 #[.agg #[.slice (some ⟨g, 0, none⟩) x.ws.length cap, .int .i64 x.off, .int .i64 x.rows, .int .i64 x.cols, .int .i64 x.ld], O] w
     (fun e w' => e = .returned (.int .i64 (mtakeE x zs)) ∧ Wrote w w' g (mtakeL x zs)) := by
  have hD := hF.fs (by omega) cap
  have hltg := hF.lt
  obtain ⟨aO, capO, rfl⟩ := hO.shape
  have hlO := hO.len
  have hr0 := hwf.2.1
  unfold I64 at hr0
  have Hw := hid hwf
  clear hwf
  cases hgd : x.good
  · have k1 : (!x.good) = true := by simp [hgd]
    have q := hid (show mtakeE x zs = 1 by unfold mtakeE; rw [hgd]; rfl)
    have q2 := hid (show mtakeL x zs = x.ws by unfold mtakeL; rw [q.out]; rfl)
    clear hgd
    go_enter Try.func45, Try.ntmps45
    refine seq_stop ?_
    go_wp2
    refine stop_go (fun W hW => ?_)
    have s1 : w.heap.size < W.heap.size := by rw [hW]; simp only [World.size_alloc]; omega
    have b1 : ∀ i, W.cell? ⟨w.heap.size, i, none⟩ = (#[.slice (some ⟨g, 0, none⟩) x.ws.length cap, .int .i64 x.off, .int .i64 x.rows, .int .i64 x.cols, .int .i64 x.ld] : Array Value)[i]? := by intro i; rw [hW]; go_simp
    have g0 : Grew w W := by rw [hW]; exact (Grew.refl _).alloc _
    clear hW
    have hDW := hD.grew g0
    go_wp2_with (first | (go_at_call 130; ((with_reducible refine (good_any x _ _ ?_ Hw.out).mono ?_); (focus (first | (with_reducible assumption) | (with_reducible refine FS.ext ?_ _ _; with_reducible assumption) | (with_reducible refine IS.ext ?_ _ _; with_reducible assumption) | (refine hDu _ ?_; with_reducible assumption) | (refine hOu _ ?_; with_reducible assumption) | (refine hDa _ ?_; with_reducible assumption) | (refine hDb _ ?_; with_reducible assumption) | (refine hDc _ ?_; with_reducible assumption) | (refine hDd _ ?_; with_reducible assumption) | (refine FW.fs ?_ (by omega) _; with_reducible assumption) | (refine WS.fs ?_; with_reducible assumption) | (refine FW.fs ?_ (by omega) _; assumption) | omega | assumption)); rintro e w1 ⟨rfl, o1, n1, rfl⟩)))
    go_ret
    exact ⟨by rw [q.out]; rfl, by rw [q2.out]; exact Wrote.grew_r (Wrote.refl hF) (by (show Grew _ _; repeat (first | (with_reducible exact Grew.refl _) | (with_reducible assumption) | (with_reducible exact Grew.same_o) | (with_reducible exact Grew.app_o) | (with_reducible refine Grew.ext ?_ _ _) | (with_reducible refine Grew.alloc ?_ _) | ((with_reducible refine Grew.setCell ?_ ?_ _); rotate_left; (focus (dsimp only; first | omega | (simp only [size_ext, World.size_alloc, Array.size_append]; omega)))) | (with_reducible refine Grew.drewN ?_ _) | (with_reducible refine Grew.drew ?_))))⟩
  have k1 : (!x.good) = false := by simp [hgd]
  have hE := hid (show mtakeE x zs = takeE x.rows zs by unfold mtakeE; rw [hgd]; rfl)
  have Hgd := hid hgd
  clear hgd
  by_cases c1 : x.rows < zs.length
  · have d1 : decide (x.rows < (zs.length : Int)) = true := by simpa using c1
    have q := hid (show mtakeE x zs = 3 by rw [hE.out]; unfold takeE; rw [if_pos c1])
    have q2 := hid (show mtakeL x zs = x.ws by unfold mtakeL; rw [q.out]; rfl)
    go_enter Try.func45, Try.ntmps45
    refine seq_stop ?_
    go_wp2
    refine stop_go (fun W hW => ?_)
    have s1 : w.heap.size < W.heap.size := by rw [hW]; simp only [World.size_alloc]; omega
    have b1 : ∀ i, W.cell? ⟨w.heap.size, i, none⟩ = (#[.slice (some ⟨g, 0, none⟩) x.ws.length cap, .int .i64 x.off, .int .i64 x.rows, .int .i64 x.cols, .int .i64 x.ld] : Array Value)[i]? := by intro i; rw [hW]; go_simp
    have g0 : Grew w W := by rw [hW]; exact (Grew.refl _).alloc _
    clear hW
    have hDW := hD.grew g0
    go_wp2_with (first | (go_at_call 130; ((with_reducible refine (good_any x _ _ ?_ Hw.out).mono ?_); (focus (first | (with_reducible assumption) | (with_reducible refine FS.ext ?_ _ _; with_reducible assumption) | (with_reducible refine IS.ext ?_ _ _; with_reducible assumption) | (refine hDu _ ?_; with_reducible assumption) | (refine hOu _ ?_; with_reducible assumption) | (refine hDa _ ?_; with_reducible assumption) | (refine hDb _ ?_; with_reducible assumption) | (refine hDc _ ?_; with_reducible assumption) | (refine hDd _ ?_; with_reducible assumption) | (refine FW.fs ?_ (by omega) _; with_reducible assumption) | (refine WS.fs ?_; with_reducible assumption) | (refine FW.fs ?_ (by omega) _; assumption) | omega | assumption)); rintro e w1 ⟨rfl, o1, n1, rfl⟩)))
    go_ret
    exact ⟨by rw [q.out]; rfl, by rw [q2.out]; exact Wrote.grew_r (Wrote.refl hF) (by (show Grew _ _; repeat (first | (with_reducible exact Grew.refl _) | (with_reducible assumption) | (with_reducible exact Grew.same_o) | (with_reducible exact Grew.app_o) | (with_reducible refine Grew.ext ?_ _ _) | (with_reducible refine Grew.alloc ?_ _) | ((with_reducible refine Grew.setCell ?_ ?_ _); rotate_left; (focus (dsimp only; first | omega | (simp only [size_ext, World.size_alloc, Array.size_append]; omega)))) | (with_reducible refine Grew.drewN ?_ _) | (with_reducible refine Grew.drew ?_))))⟩
  have d1 : decide (x.rows < (zs.length : Int)) = false := by simpa using c1
  have HO := hid hO
  clear hO
  go_enter Try.func45, Try.ntmps45
  refine seq_stop ?_
  go_wp2
  refine stop_go (fun W hW => ?_)
  have s1 : w.heap.size < W.heap.size := by rw [hW]; simp only [World.size_alloc]; omega
  have b1 : ∀ i, W.cell? ⟨w.heap.size, i, none⟩ = (#[.slice (some ⟨g, 0, none⟩) x.ws.length cap, .int .i64 x.off, .int .i64 x.rows, .int .i64 x.cols, .int .i64 x.ld] : Array Value)[i]? := by intro i; rw [hW]; go_simp
  have g0 : Grew w W := by rw [hW]; exact (Grew.refl _).alloc _
  clear hW
  have hDW := hD.grew g0
  have HOW := hid (HO.out.grew g0)
  have hFW := hF.grew g0
  have gl := hFW.lt
  have q1 : w.heap.size ≠ g := by omega
  go_wp2_with (first | (go_at_call 130; ((with_reducible refine (good_any x _ _ ?_ Hw.out).mono ?_); (focus (first | (with_reducible assumption) | (with_reducible refine FS.ext ?_ _ _; with_reducible assumption) | (with_reducible refine IS.ext ?_ _ _; with_reducible assumption) | (refine hDu _ ?_; with_reducible assumption) | (refine hOu _ ?_; with_reducible assumption) | (refine hDa _ ?_; with_reducible assumption) | (refine hDb _ ?_; with_reducible assumption) | (refine hDc _ ?_; with_reducible assumption) | (refine hDd _ ?_; with_reducible assumption) | (refine FW.fs ?_ (by omega) _; with_reducible assumption) | (refine WS.fs ?_; with_reducible assumption) | (refine FW.fs ?_ (by omega) _; assumption) | omega | assumption)); rintro e w1 ⟨rfl, o1, n1, rfl⟩)))
  go_loopw [21] (fun c wr => ∃ (i : Nat) (o : Array Obj) (n : Nat), i ≤ zs.length ∧ c = .int .i64 i ∧ wr = ext W o n ∧ ordTo x.rows zs i = true) (fun c _ => zs.length - (intOf c).toNat)
  case atStart => exact ⟨0, _, _, Nat.zero_le _, rfl, rfl, rfl⟩
  case round =>
    obtain ⟨i, o2, n2, hi, rfl, hwr, hord⟩ := hrel
    subst hwr
    have Hord := hid hord
    clear hord
    by_cases hlt : i < zs.length
    · obtain ⟨blk, o, rfl, hblk, hc⟩ := HOW.out.at.2 (by omega)
      have hb := hc i hlt
      obtain ⟨z, hz⟩ : ∃ z, z = zs.getD i 0 := ⟨_, rfl⟩
      rw [← hz] at hb
      have hstep : ordTo x.rows zs (i + 1) = (decide ((i : Int) ≤ z) && decide (z < x.rows)) := by rw [ordTo, Hord.out, ← hz]; simp
      have Hst := hid hstep
      have Hz := hid hz
      clear hc hstep hz
      by_cases e1 : z < (i : Int)
      · have d2 : decide (z < (i : Int)) = true := by simpa using e1
        have q0 := ordTo_false (n := i + 1) (by rw [Hst.out]; simp; omega) zs.length (by omega)
        have q := hid (show mtakeE x zs = 1 by rw [hE.out]; exact takeE_1 (by omega) q0)
        have q2 := hid (show mtakeL x zs = x.ws by unfold mtakeL; rw [q.out]; rfl)
        clear q0
        go_wp2
        go_ret
        exact ⟨by rw [q.out]; rfl, by rw [q2.out]; exact Wrote.grew_r (Wrote.refl hF) (by (show Grew _ _; repeat (first | (with_reducible exact Grew.refl _) | (with_reducible assumption) | (with_reducible exact Grew.same_o) | (with_reducible exact Grew.app_o) | (with_reducible refine Grew.ext ?_ _ _) | (with_reducible refine Grew.alloc ?_ _) | ((with_reducible refine Grew.setCell ?_ ?_ _); rotate_left; (focus (dsimp only; first | omega | (simp only [size_ext, World.size_alloc, Array.size_append]; omega)))) | (with_reducible refine Grew.drewN ?_ _) | (with_reducible refine Grew.drew ?_))))⟩
      · have d2 : decide (z < (i : Int)) = false := by simpa using e1
        by_cases e2 : x.rows ≤ z
        · have d3 : decide (x.rows ≤ z) = true := by simpa using e2
          have q0 := ordTo_false (n := i + 1) (by rw [Hst.out]; simp; omega) zs.length (by omega)
          have q := hid (show mtakeE x zs = 1 by rw [hE.out]; exact takeE_1 (by omega) q0)
          have q2 := hid (show mtakeL x zs = x.ws by unfold mtakeL; rw [q.out]; rfl)
          clear q0
          go_wp2
          go_ret
          exact ⟨by rw [q.out]; rfl, by rw [q2.out]; exact Wrote.grew_r (Wrote.refl hF) (by (show Grew _ _; repeat (first | (with_reducible exact Grew.refl _) | (with_reducible assumption) | (with_reducible exact Grew.same_o) | (with_reducible exact Grew.app_o) | (with_reducible refine Grew.ext ?_ _ _) | (with_reducible refine Grew.alloc ?_ _) | ((with_reducible refine Grew.setCell ?_ ?_ _); rotate_left; (focus (dsimp only; first | omega | (simp only [size_ext, World.size_alloc, Array.size_append]; omega)))) | (with_reducible refine Grew.drewN ?_ _) | (with_reducible refine Grew.drew ?_))))⟩
        · have d3 : decide (x.rows ≤ z) = false := by simpa using e2
          go_wp2
          go_roundw
          case rel => exact ⟨i + 1, _, _, by omega, by go_num, rfl, by rw [Hst.out]; simp; omega⟩
          case measure => simp [intOf]; omega
    · have e : i = zs.length := by omega
      subst e
      have q := hid (show mtakeE x zs = 0 by rw [hE.out]; unfold takeE; rw [if_neg (by omega), if_pos Hord.out])
      have q2 := hid (show mtakeL x zs = mtakeTo x zs zs.length by unfold mtakeL; rw [if_pos q.out])
      go_wp2
      go_loopw [38] (fun c wr => ∃ (i : Nat) (cs : Array Value) (o : Array Obj) (n : Nat), i ≤ zs.length ∧ c = .int .i64 i ∧ wr = ext (upd W g cs) o n ∧ CF cs (mtakeTo x zs i)) (fun c _ => zs.length - (intOf c).toNat)
      case atStart =>
        obtain ⟨cs, h1, h2⟩ := hFW.self
        exact ⟨0, cs, o2, n2, Nat.zero_le _, rfl, by rw [h1], h2⟩
      case round =>
        obtain ⟨i, cs, o3, n3, hi, rfl, hwr, hcs⟩ := hrel
        subst hwr
        by_cases hlt : i < zs.length
        · obtain ⟨blk, o, rfl, hblk, hc⟩ := HOW.out.at.2 (by omega)
          have hb := hc i hlt
          have hz := ordTo_at Hord.out i hlt
          obtain ⟨z, hz2⟩ : ∃ z, z = zs.getD i 0 := ⟨_, rfl⟩
          have hl2 : (mtakeTo x zs i).length = x.ws.length := by simp
          rw [← hz2] at hb hz
          have Hz := hid hz2
          have qb : blk ≠ g := Nat.ne_of_lt (hng _ _ _ (by omega) rfl)
          have hrows : ∀ o n, Calls Try.prog 44 #[.agg #[.slice (some ⟨g, 0, none⟩) x.ws.length cap, .int .i64 x.off, .int .i64 x.rows, .int .i64 x.cols, .int .i64 x.ld], .int .i64 i, .int .i64 z] (ext (upd W g cs) o n)
             (fun e w' => e = .returned (.int .i64 (rowsE (withL x (mtakeTo x zs i)) i z)) ∧ Wrote (ext (upd W g cs) o n) w' g (mtakeTo x zs (i + 1))) := fun o n => by
            have h := rows_any (withL x (mtakeTo x zs i)) g cap i z _ (hFW.mk' hcs o n) Hw.out (by unfold withL; simp only [hl2]; omega) (by unfold I64; omega) (by unfold I64; omega)
            have e : (withL x (mtakeTo x zs i)).ws.length = x.ws.length := hl2
            rw [e] at h
            rw [mtakeTo, ← Hz.out]
            exact h
          clear hc hz2
          go_wp2_with (first | (go_at_call 44; ((with_reducible refine (hrows _ _).mono ?_); rintro e w1 ⟨rfl, hw⟩; obtain ⟨cs2, o4, n4, rfl, hcs2⟩ := Wrote.trans ⟨cs, _, _, rfl, hcs⟩ gl hw)))
          go_roundw
          case rel => exact ⟨i + 1, cs2, _, _, by omega, by go_num, rfl, hcs2⟩
          case measure => simp [intOf]; omega
        · have e : i = zs.length := by omega
          subst e
          go_wp2
          go_ret
          exact ⟨by rw [q.out]; rfl, by rw [q2.out]; exact Wrote.grew_l g0 (by omega) ⟨cs, _, _, rfl, hcs⟩⟩
end Go.Proofs.Ytcmggfpcbijcjaa
end
section
/-
  Plain: lists that hold a grid of numbers; rows that change places, in a matrix and in a table.
-/
set_option linter.unusedSimpArgs false
set_option linter.unusedVariables false
open Go Go.RowKit
namespace Sedge
open Go.Proofs.Ytcmggfpcbijcjaa (swaps)
/-- Places of a grid: each its own, all within n. -/
structure Places (p : Nat → Nat → Nat) (R C n : Nat) : Prop where
  lt : ∀ i j, i < R → j < C → p i j < n
  inj : ∀ i j i' j', i < R → j < C → i' < R → j' < C → p i j = p i' j' → i = i' ∧ j = j'
/-- l is l0, but at the grid's places it holds f. -/
structure Hold (p : Nat → Nat → Nat) (R C : Nat) (l0 l : List Nat) (f : Nat → Nat → Nat) : Prop where
  len : l.length = l0.length
  get : ∀ i j, i < R → j < C → l.getD (p i j) 0 = f i j
  rest : ∀ q, (∀ i j, i < R → j < C → p i j ≠ q) → l.getD q 0 = l0.getD q 0
section
variable {p : Nat → Nat → Nat} {R C : Nat} {l0 l l' : List Nat} {f g : Nat → Nat → Nat}
theorem Hold.unique (h : Hold p R C l0 l f) (h' : Hold p R C l0 l' g) (hfg : ∀ i j, i < R → j < C → f i j = g i j) : l = l' := by
  have hl : l.length = l'.length := h.len.trans h'.len.symm
  apply List.ext_getElem hl
  intro q h1 h2
  have e : l.getD q 0 = l'.getD q 0 := by
    by_cases hq : ∃ i j, i < R ∧ j < C ∧ p i j = q
    · obtain ⟨i, j, hi, hj, rfl⟩ := hq
      rw [h.get i j hi hj, h'.get i j hi hj, hfg i j hi hj]
    · have : ∀ i j, i < R → j < C → p i j ≠ q := fun i j hi hj he => hq ⟨i, j, hi, hj, he⟩
      rw [h.rest q this, h'.rest q this]
  simpa [List.getD_eq_getElem?_getD, h1, h2] using e
theorem getD_set_eq {l : List Nat} {k x : Nat} (h : k < l.length) : (l.set k x).getD k 0 = x := by
  simp [List.getD_eq_getElem?_getD, h]
theorem getD_set_ne' {l : List Nat} {k q x : Nat} (h : k ≠ q) : (l.set k x).getD q 0 = l.getD q 0 := by
  rw [List.getD_eq_getElem?_getD, List.getElem?_set_ne h, ← List.getD_eq_getElem?_getD]
theorem Hold.set (hp : Places p R C l0.length) (h : Hold p R C l0 l f) {i j x : Nat} (hi : i < R) (hj : j < C) :
    Hold p R C l0 (l.set (p i j) x) (fun r c => if r = i ∧ c = j then x else f r c) := by
  refine ⟨by rw [List.length_set, h.len], fun r c hr hc => ?_, fun q hq => ?_⟩
  · by_cases he : r = i ∧ c = j
    · obtain ⟨rfl, rfl⟩ := he
      rw [getD_set_eq (by rw [h.len]; exact hp.lt _ _ hr hc)]; simp
    · rw [getD_set_ne' (fun e => he ((hp.inj _ _ _ _ hi hj hr hc e).imp Eq.symm Eq.symm)), if_neg he]; exact h.get r c hr hc
  · rw [getD_set_ne' (hq i j hi hj)]; exact h.rest q hq
theorem Hold.congr (h : Hold p R C l0 l f) (hfg : ∀ i j, i < R → j < C → f i j = g i j) : Hold p R C l0 l g :=
  ⟨h.len, fun i j hi hj => (h.get i j hi hj).trans (hfg i j hi hj), h.rest⟩
def swapF (f : Nat → Nat → Nat) (i k j : Nat) (r c : Nat) : Nat := if c < j then (if r = i then f k c else if r = k then f i c else f r c) else f r c
theorem writes_hold (hp : Places p R C l0.length) (t : Nat → Nat) : ∀ k, k ≤ R * C → ∃ f, Hold p R C l0 (writes l0 (fun s => p (s / C) (s % C)) t k) f ∧
    ∀ i j, i < R → j < C → f i j = if i * C + j < k then t (i * C + j) else l0.getD (p i j) 0
  | 0, _ => ⟨fun i j => l0.getD (p i j) 0, ⟨rfl, fun _ _ _ _ => rfl, fun _ _ => rfl⟩, fun i j _ _ => by simp⟩
  | k + 1, hk => by
    obtain ⟨f, h, hf⟩ := writes_hold hp t k (by omega)
    have hC : 0 < C := by rcases Nat.eq_zero_or_pos C with h0 | h0 <;> simp_all
    have hi : k / C < R := by rw [Nat.div_lt_iff_lt_mul hC]; omega
    have hj : k % C < C := Nat.mod_lt _ hC
    refine ⟨_, h.set hp hi hj, fun i j hi' hj' => ?_⟩
    have hk2 : k / C * C + k % C = k := by rw [Nat.mul_comm]; exact Nat.div_add_mod k C
    by_cases he : i = k / C ∧ j = k % C
    · obtain ⟨rfl, rfl⟩ := he
      rw [if_pos ⟨rfl, rfl⟩, hk2, if_pos (by omega)]
    · rw [if_neg he, hf i j hi' hj']
      have hne : i * C + j ≠ k := fun e => he ⟨by rw [← e]; exact (at_div hj').1.symm, by rw [← e]; exact (at_div hj').2.symm⟩
      by_cases h1 : i * C + j < k
      · rw [if_pos h1, if_pos (by omega)]
      · rw [if_neg h1, if_neg (by omega)]
theorem swaps_hold (hp : Places p R C l0.length) (h : Hold p R C l0 l f) {i k : Nat} (hi : i < R) (hk : k < R) : ∀ j, j ≤ C →
    Hold p R C l0 (swaps l (p i) (p k) j) (swapF f i k j)
  | 0, _ => h.congr fun r c _ _ => by simp [swapF]
  | j + 1, hj => by
    have h1 := swaps_hold hp h hi hk j (by omega)
    have hj' : j < C := by omega
    unfold swaps
    rw [h1.get i j hi hj', h1.get k j hk hj']
    refine ((h1.set hp (x := swapF f i k j k j) hi hj').set hp (x := swapF f i k j i j) hk hj').congr fun r c hr hc => ?_
    unfold swapF
    by_cases e1 : c = j
    · subst e1
      by_cases e2 : r = k
      · subst e2
        by_cases e3 : r = i <;> simp [e3]
      · by_cases e3 : r = i
        · simp [e2, e3]; intro h4; exact absurd (e3.trans h4) e2
        · simp [e2, e3]
    · have : c < j + 1 ↔ c < j := by omega
      simp [e1, this]
/-- A good matrix' places. -/
theorem MatM.places {m : MatM} (h : m.good = true) : Places m.place m.rows.toNat m.cols.toNat m.ws.length := by
  have h0 := MatM.good_n h
  refine ⟨fun i j hi hj => ?_, fun i j i' j' hi hj hi' hj' he => ?_⟩
  · have := MatM.good_place h (i := i) (j := j) (by omega) (by omega)
    unfold MatM.place; omega
  · have h1 := MatM.good_place h (i := i) (j := j) (by omega) (by omega)
    have h2 := MatM.good_place h (i := i') (j := j') (by omega) (by omega)
    unfold MatM.place at he
    have e : (i : Int) + j * m.ld = i' + j' * m.ld := by omega
    have hj2 : j = j' := by
      rcases Nat.lt_trichotomy j j' with h3 | h3 | h3
      · have : ((j : Int) + 1) * m.ld ≤ j' * m.ld := Int.mul_le_mul_of_nonneg_right (by omega) (by omega)
        rw [Int.add_mul] at this; omega
      · exact h3
      · have : ((j' : Int) + 1) * m.ld ≤ j * m.ld := Int.mul_le_mul_of_nonneg_right (by omega) (by omega)
        rw [Int.add_mul] at this; omega
    subst hj2
    exact ⟨by omega, rfl⟩
theorem MatM.hold {m : MatM} : Hold m.place m.rows.toNat m.cols.toNat m.ws m.ws m.num := ⟨rfl, fun _ _ _ _ => rfl, fun _ _ => rfl⟩
/-- A table's places. -/
theorem tabPlaces (R C : Nat) : Places (fun i j => i * C + j) R C (R * C) :=
  ⟨fun _ _ hi hj => at_lt hi hj, fun i j i' j' _ hj _ hj' he => ⟨by have h1 := (at_div (i := i) hj).1; have h2 := (at_div (i := i') hj').1; rw [← h1, ← h2, he], by have h1 := (at_div (i := i) hj).2; have h2 := (at_div (i := i') hj').2; rw [← h1, ← h2, he]⟩⟩
theorem MatM.tab_hold (m : MatM) : Hold (fun i j => i * m.cols.toNat + j) m.rows.toNat m.cols.toNat (List.replicate (m.rows.toNat * m.cols.toNat) 0) m.tab m.num := by
  have hp := tabPlaces m.rows.toNat m.cols.toNat
  rw [← List.length_replicate (n := m.rows.toNat * m.cols.toNat) (a := 0)] at hp
  obtain ⟨f, h, hf⟩ := writes_hold hp (fun t => m.num (t / m.cols.toNat) (t % m.cols.toNat)) _ (Nat.le_refl _)
  have e : (fun s => s / m.cols.toNat * m.cols.toNat + s % m.cols.toNat) = id := by
    funext s; rw [Nat.mul_comm]; exact Nat.div_add_mod s _
  simp only [e] at h
  refine h.congr fun i j hi hj => ?_
  rw [hf i j hi hj, if_pos (at_lt hi hj), (at_div hj).1, (at_div hj).2]
@[simp] theorem MatM.tab_length (m : MatM) : m.tab.length = m.rows.toNat * m.cols.toNat := by simp [MatM.tab, MatM.tabTo]
theorem MatM.into_hold {m : MatM} (h : m.good = true) {t : List Nat} {l1 : List Nat} {f : Nat → Nat → Nat} (ht : Hold (fun i j => i * m.cols.toNat + j) m.rows.toNat m.cols.toNat l1 t f) :
    Hold m.place m.rows.toNat m.cols.toNat m.ws (m.into m.rows.toNat m.cols.toNat t) f := by
  obtain ⟨f', h', hf⟩ := writes_hold (MatM.places h) (fun k => t.getD k 0) _ (Nat.le_refl _)
  refine h'.congr fun i j hi hj => ?_
  rw [hf i j hi hj, if_pos (at_lt hi hj)]
  exact ht.get i j hi hj
end
end Sedge
open Sedge
namespace Go.Proofs.Ytcmggfpcbijcjaa
theorem rowV_place {m : MatM} (hc : 0 < m.cols) (i t : Nat) : (rowV m i).place t = m.place i t := by
  unfold rowV VecM.place MatM.place; simp only [hc, if_true]
theorem swaps_congr {l : List Nat} {p q p' q' : Nat → Nat} (hp : ∀ k, p k = p' k) (hq : ∀ k, q k = q' k) (n : Nat) : swaps l p q n = swaps l p' q' n := by
  have e1 : p = p' := funext hp
  have e2 : q = q' := funext hq
  rw [e1, e2]
/-- What rowsL makes holds what rrowsL makes. -/
theorem rowsL_hold {m : MatM} (hg : m.good = true) {l : List Nat} (hlen : l.length = m.ws.length) {f : Nat → Nat → Nat} (h : Hold m.place m.rows.toNat m.cols.toNat m.ws l f) {i k : Nat} (hi : (i : Int) < m.rows) (hk : (k : Int) < m.rows) :
    Hold m.place m.rows.toNat m.cols.toNat m.ws (rowsL (withL m l) i k) (swapF f i k m.cols.toNat) := by
  have hp := MatM.places hg
  have h2 := swaps_hold hp h (i := i) (k := k) (by omega) (by omega) m.cols.toNat (Nat.le_refl _)
  have hg2 : (withL m l).good = true := by rw [withL_good hlen]; exact hg
  by_cases hik : i = k
  · subst hik
    have e : rowsL (withL m l) i i = l := by unfold rowsL; rw [if_neg (by simp)]; rfl
    rw [e]
    refine h.congr fun r c hr hc => ?_
    unfold swapF
    by_cases e1 : r = i
    · subst e1; simp
    · simp [e1]
  · have e : rowsL (withL m l) i k = swaps l (rowV (withL m l) i).place (rowV (withL m l) k).place m.cols.toNat := by
      unfold rowsL
      rw [if_pos ⟨by unfold rowsOk; rw [hg2]; simp only [Bool.true_and, Bool.and_eq_true, decide_eq_true_eq]; exact ⟨⟨⟨by omega, by omega⟩, hi⟩, hk⟩, by omega⟩]; rfl
    rw [e]
    by_cases hc : 0 < m.cols
    · rw [swaps_congr (p' := m.place i) (q' := m.place k) (fun t => rowV_place (m := withL m l) hc i t) (fun t => rowV_place (m := withL m l) hc k t)]
      exact h2
    · have : m.cols.toNat = 0 := by omega
      rw [this] at h2 ⊢; exact h2
theorem rrowsL_hold {R C : Nat} {t0 t : List Nat} (h0 : t0.length = R * C) {f : Nat → Nat → Nat} (h : Hold (fun i j => i * C + j) R C t0 t f) {i k : Nat} (hi : i < R) (hk : k < R) :
    Hold (fun i j => i * C + j) R C t0 (rrowsL C t i k) (swapF f i k C) :=
  swaps_hold (by rw [h0]; exact tabPlaces R C) h hi hk C (Nat.le_refl _)
/-- Rows of a matrix, and of its table. -/
theorem rows_into {m : MatM} (hg : m.good = true) {i k : Nat} (hi : (i : Int) < m.rows) (hk : (k : Int) < m.rows) :
    rowsL m i k = m.into m.rows.toNat m.cols.toNat (rrowsL m.cols.toNat m.tab i k) := by
  have h1 := rowsL_hold hg rfl (MatM.hold (m := m)) hi hk
  have h2 := MatM.into_hold hg (rrowsL_hold (by simp) (MatM.tab_hold m) (i := i) (k := k) (by omega) (by omega))
  exact h1.unique h2 fun _ _ _ _ => rfl
theorem same_into {m : MatM} (hg : m.good = true) : m.ws = m.into m.rows.toNat m.cols.toNat m.tab :=
  (MatM.hold (m := m)).unique (MatM.into_hold hg (MatM.tab_hold m)) fun _ _ _ _ => rfl
theorem takeTo_into {m : MatM} (hg : m.good = true) (zs : List Int) (hz : ordTo m.rows zs zs.length = true) : ∀ n, n ≤ zs.length →
    ∃ f, Hold m.place m.rows.toNat m.cols.toNat m.ws (mtakeTo m zs n) f ∧ Hold (fun i j => i * m.cols.toNat + j) m.rows.toNat m.cols.toNat (List.replicate (m.rows.toNat * m.cols.toNat) 0) (rtakeTo m.cols.toNat m.tab zs n) f
  | 0, _ => ⟨m.num, MatM.hold, MatM.tab_hold m⟩
  | n + 1, hn => by
    obtain ⟨f, h1, h2⟩ := takeTo_into hg zs hz n (by omega)
    have h3 := ordTo_at hz n (by omega)
    obtain ⟨z, hz2⟩ : ∃ z : Nat, zs.getD n 0 = z := ⟨(zs.getD n 0).toNat, by omega⟩
    refine ⟨swapF f n z m.cols.toNat, ?_, ?_⟩
    · unfold mtakeTo; rw [hz2]
      exact rowsL_hold hg (by simp) h1 (by omega) (by omega)
    · unfold rtakeTo; rw [hz2]
      exact rrowsL_hold (by simp) h2 (by omega) (by simp only [Int.toNat_natCast]; omega)
theorem take_into {m : MatM} (hg : m.good = true) (zs : List Int) : mtakeE m zs = takeE m.rows zs ∧ mtakeL m zs = m.into m.rows.toNat m.cols.toNat (rtakeL m.rows.toNat m.cols.toNat m.tab zs) := by
  have h0 := MatM.good_n hg
  have hE : mtakeE m zs = takeE m.rows zs := by unfold mtakeE; rw [if_pos hg]
  refine ⟨hE, ?_⟩
  have eR : ((m.rows.toNat : Nat) : Int) = m.rows := by omega
  unfold mtakeL rtakeL
  rw [hE, eR]
  by_cases h : takeE m.rows zs = 0
  · rw [if_pos h, if_pos h]
    have hz : ordTo m.rows zs zs.length = true := by
      unfold takeE at h
      split at h
      · cases h
      · split at h
        · assumption
        · cases h
    obtain ⟨f, h1, h2⟩ := takeTo_into hg zs hz zs.length (Nat.le_refl _)
    exact h1.unique (MatM.into_hold hg h2) fun _ _ _ _ => rfl
  · rw [if_neg h, if_neg h]
    exact same_into hg
end Go.Proofs.Ytcmggfpcbijcjaa
end
section
/-
  Contracts: a table's numbers into a list; a vector's list; a list into a vector's places (reference of layer 3).
-/
set_option linter.unusedSimpArgs false
set_option linter.unusedVariables false
open Go Go.RowKit Sedge
namespace Go.Proofs.Ytcmggfpcbijcjaa
set_option maxRecDepth 100000 in
set_option maxHeartbeats 1000000 in
/-- straightedgeref03.Into. -/
theorem rinto_any (x : MatM) (D A : Value) (R C : Nat) (ts : List Nat) (w : World) (hD : FS w D x.ws) (hA : FS w A ts) (hx : x.good = true) (hr : R ≤ 1000) (hc : C ≤ 1000) (hR : (R : Int) ≤ x.rows) (hC : (C : Int) ≤ x.cols)
    (hl : x.ws.length ≤ 1000000) (ht : ts.length = R * C) :
   Calls Try.prog 51 #[.agg #[D, .int .i64 x.off, .int .i64 x.rows, .int .i64 x.cols, .int .i64 x.ld], .agg #[.int .i64 R, .int .i64 C, A]] w
     (fun e w' => ∃ v, e = .returned v ∧ WS w' w.heap.size v (x.into R C ts) ∧ ∃ o n, w' = ext w o n) := by
  have hn := MatM.good_n hx
  have hm : R * C ≤ 1000 * 1000 := Nat.mul_le_mul hr hc
  have Hx := hid hx
  have Hn := hid hn
  have Hm := hid hm
  have HR := hid hR
  have HC := hid hC
  clear hx hn hm hR hC
  go_enter Try.func51, Try.ntmps51
  refine seq_stop ?_
  go_wp2
  refine stop_go (fun W hW => ?_)
  have s1 : w.heap.size < W.heap.size := by rw [hW]; simp only [World.size_alloc]; omega
  have b1 : ∀ i, W.cell? ⟨w.heap.size, i, none⟩ = (#[D, .int .i64 x.off, .int .i64 x.rows, .int .i64 x.cols, .int .i64 x.ld] : Array Value)[i]? := by intro i; rw [hW]; go_simp
  have f1 : ∀ i, W.frozen? ⟨w.heap.size, i, none⟩ = false := by intro i; rw [hW]; go_simp
  have s2 : w.heap.size + 1 < W.heap.size := by rw [hW]; simp only [World.size_alloc]; omega
  have b2 : ∀ i, W.cell? ⟨w.heap.size + 1, i, none⟩ = (#[.int .i64 R, .int .i64 C, A] : Array Value)[i]? := by intro i; rw [hW]; go_simp
  have f2 : ∀ i, W.frozen? ⟨w.heap.size + 1, i, none⟩ = false := by intro i; rw [hW]; go_simp
  have g0 : Grew w W := by rw [hW]; exact ((Grew.refl _).alloc _).alloc _
  clear hW
  have hDW : FS W D x.ws := hD.grew g0
  have hAW : FS W A ts := hA.grew g0
  go_wp2_with (at_builtin; refine appendN_f finfo (Grew.refl W |>.alloc _) (OwnF.empty rfl (Nat.le_refl _)) (FS.alloc hDW _) (by simp; omega) _ _ rfl rfl rfl rfl ?_; intro v oo nn ho hn; obtain ⟨g, cap, rfl, hg, hF, hL⟩ := ho.ws (hn notnil) (by simp; omega); simp only [List.nil_append] at hF hL)
  refine name_any (fun V hV => ?_)
  have gV : Grew W V := by rw [← hV]; (show Grew _ _; repeat (first | (with_reducible exact Grew.refl _) | (with_reducible assumption) | (with_reducible exact Grew.same_o) | (with_reducible exact Grew.app_o) | (with_reducible refine Grew.ext ?_ _ _) | (with_reducible refine Grew.alloc ?_ _) | ((with_reducible refine Grew.setCell ?_ ?_ _); rotate_left; (focus (dsimp only; first | omega | (simp only [size_ext, World.size_alloc, Array.size_append]; omega)))) | (with_reducible refine Grew.drewN ?_ _) | (with_reducible refine Grew.drew ?_)))
  have sV := gV.below.size
  have k1 : w.heap.size < V.heap.size := by omega
  have k2 : w.heap.size + 1 < V.heap.size := by omega
  have c1 : ∀ i, V.cell? ⟨w.heap.size, i, none⟩ = (#[D, .int .i64 x.off, .int .i64 x.rows, .int .i64 x.cols, .int .i64 x.ld] : Array Value)[i]? := fun i => (gV.cell s1).trans (b1 i)
  have c2 : ∀ i, V.cell? ⟨w.heap.size + 1, i, none⟩ = (#[.int .i64 R, .int .i64 C, A] : Array Value)[i]? := fun i => (gV.cell s2).trans (b2 i)
  have hFV : FW V g x.ws := by rw [← hV]; (repeat (first | (with_reducible assumption) | ((with_reducible refine FW.ext_set ?_ ?_ ?_ _); rotate_left; (focus (simp only [size_setCell', World.size_alloc, size_ext, size_upd]; omega)); (focus (dsimp only; omega))) | ((with_reducible refine FW.setCell_ne ?_ ?_ _); rotate_left; (focus (dsimp only; omega))) | (with_reducible refine FW.ext ?_ _ _) | (with_reducible refine FW.alloc ?_ _)))
  have gl := hFV.lt
  have q1 : w.heap.size ≠ g := by omega
  have q2 : w.heap.size + 1 ≠ g := by omega
  clear hV b1 f1 b2 f2 hD hA ho hn
  go_loopw [6] (fun c wr => ∃ (i : Nat) (cs : Array Value) (o : Array Obj) (n : Nat), i ≤ R ∧ c = .int .i64 i ∧ wr = ext (upd V g cs) o n ∧ CF cs (x.intoTo R C ts (i * C))) (fun c _ => R - (intOf c).toNat)
  case atStart =>
    obtain ⟨cs, h1, h2⟩ := hFV.self
    exact ⟨0, cs, #[], _, Nat.zero_le _, rfl, by rw [h1]; exact ext_zero.symm, by simpa [writes, MatM.intoTo] using h2⟩
  case round =>
    obtain ⟨i, cs, o2, n2, hi, rfl, hwr, hcs⟩ := hrel
    subst hwr
    by_cases hlt : i < R
    · go_wp2
      go_loopw [7] (fun c wr => ∃ (j : Nat) (cs : Array Value) (o : Array Obj) (n : Nat), j ≤ C ∧ c = .int .i64 j ∧ wr = ext (upd V g cs) o n ∧ CF cs (x.intoTo R C ts (i * C + j))) (fun c _ => C - (intOf c).toNat)
      case atStart => exact ⟨0, cs, o2, n2, Nat.zero_le _, rfl, rfl, hcs⟩
      case round =>
        obtain ⟨j, cs, o3, n3, hj, rfl, hwr, hcs⟩ := hrel
        subst hwr
        by_cases hltj : j < C
        · have hp := MatM.good_place Hx.out (i := i) (j := j) (by have := HR.out; omega) (by have := HC.out; omega)
          have hn := Hn.out
          have hat := at_lt hlt hltj
          have h2 : IntKind.i64.wrap (j * x.ld) = j * x.ld := IntWalk.i64_in _ (by omega)
          have h3 : IntKind.i64.wrap (x.off + i) = x.off + i := IntWalk.i64_in _ (by omega)
          have h4 : IntKind.i64.wrap (x.off + i + j * x.ld) = x.off + i + j * x.ld := IntWalk.i64_in _ (by omega)
          have hlen : (x.intoTo R C ts (i * C + j)).length = x.ws.length := by simp [MatM.intoTo]
          have fz : ∀ i, V.frozen? ⟨g, i, none⟩ = false := hFV.notFrozen
          obtain ⟨r0, hr0, _⟩ := (hFV.mk' hcs o3 n3).get (i := x.place i j) (by rw [hlen]; unfold MatM.place; omega)
          have hr1 := (cell_ext (by simpa using gl)).symm.trans hr0
          unfold MatM.place at hr1
          have hAV : FS (upd V g cs) A ts := hAW.grew (gV.upd hg cs)
          go_wp2
          refine wp_region_R (Over V g) [] [(0,0), (0,1), (0,2), (0,3), (0,4), (0,5), (0,6), (0,7), (0,8), (0,9), (0,10), (0,11), (0,12), (1,13), (0,14), (1,15)] (by kernel_rfl) (by kernel_rfl) (fun _ _ _ _ h _ => h) ⟨_, _, _, ext_drew⟩ ?_
          go_wp2_with (first | ((with_reducible refine wpR_id ?_); first | (refine wpR_take (v := ?_) rfl rfl ?_ ?_; rotate_left; (focus (rintro w' ⟨cs', o', n', rfl⟩; go_simp; try with_reducible rfl)); simp only [Act.put, List.setIfInBounds_toArray, List.set_cons_zero, List.set_cons_succ]) | (refine wpR_pure (v := ?_) rfl rfl ?_ ?_; rotate_left; (focus (intro w'; go_simp; try with_reducible rfl)); simp only [Act.put, List.setIfInBounds_toArray, List.set_cons_zero, List.set_cons_succ]) | (refine wpR_takeG (v := ?_) rfl rfl rfl rfl rfl ?_ ?_; rotate_left; (focus (rintro w' ⟨cs', o', n', rfl⟩; go_simp; try with_reducible rfl)); simp only [Act.put, List.setIfInBounds_toArray, List.set_cons_zero, List.set_cons_succ]) | (refine wpR_skip rfl rfl rfl rfl rfl rfl ?_; simp only [Act.put, List.setIfInBounds_toArray, List.set_cons_zero, List.set_cons_succ]) | (refine wpR_skipU rfl rfl rfl rfl rfl ?_; simp only [Act.put, List.setIfInBounds_toArray, List.set_cons_zero, List.set_cons_succ]) | (refine wpR_do rfl rfl (fun K hK => ?_)) | (refine wpR_doG rfl rfl rfl rfl rfl (fun K hK => ?_)) | (refine wpR_last rfl rfl (fun K hK => ?_)) | (refine wpR_nil ?_)) | ((with_reducible refine wpR_go ?_ ?_); (focus exact ⟨_, _, _, rfl⟩)) | ((with_reducible refine upon_id ?_); refine upon_fop rfl (by assumption) (by assumption) ?_; intro rr nn hr) | (go_at_call 72; ((with_reducible refine (rat_any R C i j A ts _ ?_ hr hc ?_ ?_ ?_).mono ?_); (focus (with_reducible exact hAV.ext _ _)); (focus omega); (focus omega); (focus omega); rintro e w1 ⟨b, rfl, hb, o4, n4, rfl⟩)))
          go_roundw
          case rel =>
            refine ⟨j + 1, _, _, _, by omega, by go_num, rfl, ?_⟩
            have e : i * C + (j + 1) = i * C + j + 1 := by omega
            rw [e]
            have h8 := hcs.set (i := x.place i j) hb
            unfold MatM.intoTo at h8 ⊢; unfold writes
            rw [(at_div hltj).1, (at_div hltj).2]; exact h8
          case measure => simp [intOf]; omega
        · have e : C = j := by omega
          go_wp2
          go_roundw
          case rel => exact ⟨i + 1, cs, _, _, by omega, by go_num, rfl, by rw [Nat.succ_mul, e]; rw [e] at hcs; exact hcs⟩
          case measure => simp [intOf]; omega
    · have e : R = i := by omega
      have hlen : (x.into R C ts).length = x.ws.length := by simp [MatM.into, MatM.intoTo]
      have hfw : FW (ext (upd V g cs) o2 n2) g (x.into R C ts) := by unfold MatM.into; rw [e] at *; exact hFV.mk' hcs _ _
      have gu : Grew w (upd V g cs) := (g0.trans gV).upd (by omega) cs
      go_wp2
      go_ret
      exact ⟨_, rfl, ⟨g, cap, by rw [hlen]; rfl, by omega, by (repeat (first | (with_reducible assumption) | ((with_reducible refine FW.ext_set ?_ ?_ ?_ _); rotate_left; (focus (simp only [size_setCell', World.size_alloc, size_ext, size_upd]; omega)); (focus (dsimp only; omega))) | ((with_reducible refine FW.setCell_ne ?_ ?_ _); rotate_left; (focus (dsimp only; omega))) | (with_reducible refine FW.ext ?_ _ _) | (with_reducible refine FW.alloc ?_ _))), by omega⟩, by (show Grew _ _; repeat (first | (with_reducible exact Grew.refl _) | (with_reducible assumption) | (with_reducible exact Grew.same_o) | (with_reducible exact Grew.app_o) | (with_reducible refine Grew.ext ?_ _ _) | (with_reducible refine Grew.alloc ?_ _) | ((with_reducible refine Grew.setCell ?_ ?_ _); rotate_left; (focus (dsimp only; first | omega | (simp only [size_ext, World.size_alloc, Array.size_append]; omega)))) | (with_reducible refine Grew.drewN ?_ _) | (with_reducible refine Grew.drew ?_)))⟩
/-- The list as it is when a vector's numbers in it are others. -/
def VecMwriteTo (m : VecM) (l : List Nat) (k : Nat) : List Nat := writes m.ws m.place (fun t => l.getD t 0) k
def VecMwrite (m : VecM) (l : List Nat) : List Nat := VecMwriteTo m l (min m.n.toNat l.length)
set_option maxRecDepth 100000 in
set_option maxHeartbeats 1000000 in
/-- straightedgeref03.Write. -/
theorem rwrite_any (x : VecM) (D L : Value) (ls : List Nat) (w : World) (hD : FS w D x.ws) (hL : FS w L ls) (hx : x.right = true) (hwf : x.wf) (hl : x.ws.length ≤ 1000000) :
   Calls Try.prog 66 #[.agg #[D, .int .i64 x.off, .int .i64 x.n, .int .i64 x.inc], L] w
     (fun e w' => ∃ v, e = .returned v ∧ WS w' w.heap.size v (VecMwrite x ls) ∧ ∃ o n, w' = ext w o n) := by
  have hn := VecM.right_n hx
  have hn2 := hwf.2.1.2
  have Hx := hid hx
  have Hn := hid hn
  have Hn2 := hid hn2
  obtain ⟨aL, capL, rfl⟩ := hL.shape
  have hlL := hL.len
  clear hx hn hwf hn2
  go_enter Try.func66, Try.ntmps66
  refine seq_stop ?_
  go_wp2
  refine stop_go (fun W hW => ?_)
  have s1 : w.heap.size < W.heap.size := by rw [hW]; simp only [World.size_alloc]; omega
  have b1 : ∀ i, W.cell? ⟨w.heap.size, i, none⟩ = (#[D, .int .i64 x.off, .int .i64 x.n, .int .i64 x.inc] : Array Value)[i]? := by intro i; rw [hW]; go_simp
  have f1 : ∀ i, W.frozen? ⟨w.heap.size, i, none⟩ = false := by intro i; rw [hW]; go_simp
  have g0 : Grew w W := by rw [hW]; exact (Grew.refl _).alloc _
  clear hW
  have hDW : FS W D x.ws := hD.grew g0
  have hLW : FS W (.slice aL ls.length capL) ls := hL.grew g0
  go_wp2_with (at_builtin; refine appendN_f finfo (Grew.refl W |>.alloc _) (OwnF.empty rfl (Nat.le_refl _)) (FS.alloc hDW _) (by simp; omega) _ _ rfl rfl rfl rfl ?_; intro v oo nn ho hn; obtain ⟨g, cap, rfl, hg, hF, hL⟩ := ho.ws (hn notnil) (by simp; omega); simp only [List.nil_append] at hF hL)
  refine name_any (fun V hV => ?_)
  have gV : Grew W V := by rw [← hV]; (show Grew _ _; repeat (first | (with_reducible exact Grew.refl _) | (with_reducible assumption) | (with_reducible exact Grew.same_o) | (with_reducible exact Grew.app_o) | (with_reducible refine Grew.ext ?_ _ _) | (with_reducible refine Grew.alloc ?_ _) | ((with_reducible refine Grew.setCell ?_ ?_ _); rotate_left; (focus (dsimp only; first | omega | (simp only [size_ext, World.size_alloc, Array.size_append]; omega)))) | (with_reducible refine Grew.drewN ?_ _) | (with_reducible refine Grew.drew ?_)))
  have sV := gV.below.size
  have k1 : w.heap.size < V.heap.size := by omega
  have c1 : ∀ i, V.cell? ⟨w.heap.size, i, none⟩ = (#[D, .int .i64 x.off, .int .i64 x.n, .int .i64 x.inc] : Array Value)[i]? := fun i => (gV.cell s1).trans (b1 i)
  have hFV : FW V g x.ws := by rw [← hV]; (repeat (first | (with_reducible assumption) | ((with_reducible refine FW.ext_set ?_ ?_ ?_ _); rotate_left; (focus (simp only [size_setCell', World.size_alloc, size_ext, size_upd]; omega)); (focus (dsimp only; omega))) | ((with_reducible refine FW.setCell_ne ?_ ?_ _); rotate_left; (focus (dsimp only; omega))) | (with_reducible refine FW.ext ?_ _ _) | (with_reducible refine FW.alloc ?_ _)))
  have gl := hFV.lt
  have q1 : w.heap.size ≠ g := by omega
  clear hV b1 f1 hD ho hn
  go_loopw [6] (fun c wr => ∃ (i : Nat) (cs : Array Value) (o : Array Obj) (n : Nat), i ≤ ls.length ∧ (i : Int) ≤ x.n ∧ c = .int .i64 i ∧ wr = ext (upd V g cs) o n ∧ CF cs (VecMwriteTo x ls i)) (fun c _ => ls.length - (intOf c).toNat)
  case atStart =>
    obtain ⟨cs, h1, h2⟩ := hFV.self
    exact ⟨0, cs, #[], _, Nat.zero_le _, Hn.out.1, rfl, by rw [h1]; exact ext_zero.symm, by simpa [writes, VecMwriteTo] using h2⟩
  case round =>
    obtain ⟨i, cs, o2, n2, hi, hi2, rfl, hwr, hcs⟩ := hrel
    subst hwr
    by_cases hlt : (i : Int) < x.n
    · by_cases hlt2 : i < ls.length
      · have hp := VecM.right_place Hx.out hlt
        have hn2 := Hn2.out
        have hN := Hn.out
        have h2 : IntKind.i64.wrap (i * x.inc) = i * x.inc := IntWalk.i64_in _ (by omega)
        have h3 : IntKind.i64.wrap (x.off + i * x.inc) = x.off + i * x.inc := IntWalk.i64_in _ (by omega)
        have hlen : (VecMwriteTo x ls i).length = x.ws.length := by simp [VecMwriteTo]
        have fz : ∀ i, V.frozen? ⟨g, i, none⟩ = false := hFV.notFrozen
        obtain ⟨r0, hr0, _⟩ := (hFV.mk' hcs o2 n2).get (i := x.place i) (by rw [hlen]; unfold VecM.place; omega)
        have hr1 := (cell_ext (by simpa using gl)).symm.trans hr0
        unfold VecM.place at hr1
        obtain ⟨blk, o, rfl, hblk, hc⟩ := hLW.at.2 (by omega)
        obtain ⟨b, hb0, hf⟩ := hc i hlt2
        have hb := (gV.cell hblk).trans hb0
        have qb : blk ≠ g := by omega
        have kb : blk < V.heap.size := by omega
        clear hb0 hc hr0
        go_wp2
        refine wp_region_R (Over V g) [] [(0,0), (0,1), (0,2), (0,3), (0,4), (0,5), (0,6), (0,7), (0,8), (0,9), (0,10), (0,11), (0,12), (1,13)] (by kernel_rfl) (by kernel_rfl) (fun _ _ _ _ h _ => h) ⟨_, _, _, ext_drew⟩ ?_
        go_wp2_with (first | ((with_reducible refine wpR_id ?_); first | (refine wpR_take (v := ?_) rfl rfl ?_ ?_; rotate_left; (focus (rintro w' ⟨cs', o', n', rfl⟩; go_simp; try with_reducible rfl)); simp only [Act.put, List.setIfInBounds_toArray, List.set_cons_zero, List.set_cons_succ]) | (refine wpR_pure (v := ?_) rfl rfl ?_ ?_; rotate_left; (focus (intro w'; go_simp; try with_reducible rfl)); simp only [Act.put, List.setIfInBounds_toArray, List.set_cons_zero, List.set_cons_succ]) | (refine wpR_takeG (v := ?_) rfl rfl rfl rfl rfl ?_ ?_; rotate_left; (focus (rintro w' ⟨cs', o', n', rfl⟩; go_simp; try with_reducible rfl)); simp only [Act.put, List.setIfInBounds_toArray, List.set_cons_zero, List.set_cons_succ]) | (refine wpR_skip rfl rfl rfl rfl rfl rfl ?_; simp only [Act.put, List.setIfInBounds_toArray, List.set_cons_zero, List.set_cons_succ]) | (refine wpR_skipU rfl rfl rfl rfl rfl ?_; simp only [Act.put, List.setIfInBounds_toArray, List.set_cons_zero, List.set_cons_succ]) | (refine wpR_do rfl rfl (fun K hK => ?_)) | (refine wpR_doG rfl rfl rfl rfl rfl (fun K hK => ?_)) | (refine wpR_last rfl rfl (fun K hK => ?_)) | (refine wpR_nil ?_)) | ((with_reducible refine wpR_go ?_ ?_); (focus exact ⟨_, _, _, rfl⟩)) | ((with_reducible refine upon_id ?_); refine upon_fop rfl (by assumption) (by assumption) ?_; intro rr nn hr))
        go_roundw
        case rel =>
          refine ⟨i + 1, _, _, _, by omega, by omega, by go_num, rfl, ?_⟩
          have h8 := hcs.set (i := x.place i) hf
          unfold VecMwriteTo at h8 ⊢; unfold writes
          exact h8
        case measure => simp [intOf]; omega
      · have e : min x.n.toNat ls.length = i := by omega
        have hlen : (VecMwrite x ls).length = x.ws.length := by simp [VecMwrite, VecMwriteTo]
        have hfw : FW (ext (upd V g cs) o2 n2) g (VecMwrite x ls) := by unfold VecMwrite; rw [e]; exact hFV.mk' hcs _ _
        have gu : Grew w (upd V g cs) := (g0.trans gV).upd (by omega) cs
        go_wp2
        go_ret
        exact ⟨_, rfl, ⟨g, cap, by rw [hlen]; rfl, by omega, by (repeat (first | (with_reducible assumption) | ((with_reducible refine FW.ext_set ?_ ?_ ?_ _); rotate_left; (focus (simp only [size_setCell', World.size_alloc, size_ext, size_upd]; omega)); (focus (dsimp only; omega))) | ((with_reducible refine FW.setCell_ne ?_ ?_ _); rotate_left; (focus (dsimp only; omega))) | (with_reducible refine FW.ext ?_ _ _) | (with_reducible refine FW.alloc ?_ _))), by omega⟩, by (show Grew _ _; repeat (first | (with_reducible exact Grew.refl _) | (with_reducible assumption) | (with_reducible exact Grew.same_o) | (with_reducible exact Grew.app_o) | (with_reducible refine Grew.ext ?_ _ _) | (with_reducible refine Grew.alloc ?_ _) | ((with_reducible refine Grew.setCell ?_ ?_ _); rotate_left; (focus (dsimp only; first | omega | (simp only [size_ext, World.size_alloc, Array.size_append]; omega)))) | (with_reducible refine Grew.drewN ?_ _) | (with_reducible refine Grew.drew ?_)))⟩
    · have e : min x.n.toNat ls.length = i := by omega
      have hlen : (VecMwrite x ls).length = x.ws.length := by simp [VecMwrite, VecMwriteTo]
      have hfw : FW (ext (upd V g cs) o2 n2) g (VecMwrite x ls) := by unfold VecMwrite; rw [e]; exact hFV.mk' hcs _ _
      have gu : Grew w (upd V g cs) := (g0.trans gV).upd (by omega) cs
      go_wp2
      go_ret
      exact ⟨_, rfl, ⟨g, cap, by rw [hlen]; rfl, by omega, by (repeat (first | (with_reducible assumption) | ((with_reducible refine FW.ext_set ?_ ?_ ?_ _); rotate_left; (focus (simp only [size_setCell', World.size_alloc, size_ext, size_upd]; omega)); (focus (dsimp only; omega))) | ((with_reducible refine FW.setCell_ne ?_ ?_ _); rotate_left; (focus (dsimp only; omega))) | (with_reducible refine FW.ext ?_ _ _) | (with_reducible refine FW.alloc ?_ _))), by omega⟩, by (show Grew _ _; repeat (first | (with_reducible exact Grew.refl _) | (with_reducible assumption) | (with_reducible exact Grew.same_o) | (with_reducible exact Grew.app_o) | (with_reducible refine Grew.ext ?_ _ _) | (with_reducible refine Grew.alloc ?_ _) | ((with_reducible refine Grew.setCell ?_ ?_ _); rotate_left; (focus (dsimp only; first | omega | (simp only [size_ext, World.size_alloc, Array.size_append]; omega)))) | (with_reducible refine Grew.drewN ?_ _) | (with_reducible refine Grew.drew ?_)))⟩
end Go.Proofs.Ytcmggfpcbijcjaa
end
section
/-
  Plain: vectors that are copied and swapped, in one list or in two.
-/
set_option linter.unusedSimpArgs false
set_option linter.unusedVariables false
open Go.Proofs.Ytcmggfpcbijcjaa
namespace Sedge
theorem writes_other {l : List Nat} {p f : Nat → Nat} {q : Nat} : ∀ k, (∀ t, t < k → p t ≠ q) → (writes l p f k).getD q 0 = l.getD q 0
  | 0, _ => rfl
  | k + 1, h => by
    unfold writes
    rw [getD_set_ne' (h k (by omega))]
    exact writes_other k fun t ht => h t (by omega)
theorem writes_at {l : List Nat} {p f : Nat → Nat} : ∀ k, (∀ s t, s < k → t < k → p s = p t → s = t) → (∀ t, t < k → p t < l.length) → ∀ t, t < k → (writes l p f k).getD (p t) 0 = f t
  | 0, _, _, t, ht => absurd ht (by omega)
  | k + 1, hi, hl, t, ht => by
    unfold writes
    rcases Nat.lt_or_ge t k with h | h
    · rw [getD_set_ne' (fun e => by have := hi k t (by omega) (by omega) e; omega)]
      exact writes_at k (fun s t hs ht => hi s t (by omega) (by omega)) (fun t ht => hl t (by omega)) t h
    · obtain rfl : t = k := by omega
      exact getD_set_eq (by rw [writes_length]; exact hl t (by omega))
theorem writes_congr {l : List Nat} {p f p' f' : Nat → Nat} : ∀ k, (∀ t, t < k → p t = p' t ∧ f t = f' t) → writes l p f k = writes l p' f' k
  | 0, _ => rfl
  | k + 1, h => by
    unfold writes
    rw [writes_congr k fun t ht => h t (by omega), (h k (by omega)).1, (h k (by omega)).2]
theorem writes_set_comm {l : List Nat} {q f : Nat → Nat} {j v : Nat} : ∀ k, (∀ t, t < k → q t ≠ j) → writes (l.set j v) q f k = (writes l q f k).set j v
  | 0, _ => rfl
  | k + 1, h => by
    unfold writes
    rw [writes_set_comm k fun t ht => h t (by omega), List.set_comm _ _ (h k (by omega)).symm]
theorem swaps_eq {l : List Nat} {p q : Nat → Nat} : ∀ k, (∀ s t, s < k → t < k → p s = p t → s = t) → (∀ s t, s < k → t < k → q s = q t → s = t) → (∀ s t, s < k → t < k → p s ≠ q t) →
    swaps l p q k = writes (writes l p (fun t => l.getD (q t) 0) k) q (fun t => l.getD (p t) 0) k
  | 0, _, _, _ => rfl
  | k + 1, hp, hq, hd => by
    have ih := swaps_eq (l := l) (p := p) (q := q) k (fun s t hs ht => hp s t (by omega) (by omega)) (fun s t hs ht => hq s t (by omega) (by omega)) (fun s t hs ht => hd s t (by omega) (by omega))
    have e1 : (swaps l p q k).getD (q k) 0 = l.getD (q k) 0 := by
      rw [ih, writes_other k fun t ht e => by have := hq t k (by omega) (by omega) e; omega, writes_other k fun t ht => hd t k (by omega) (by omega)]
    have e2 : (swaps l p q k).getD (p k) 0 = l.getD (p k) 0 := by
      rw [ih, writes_other k fun t ht e => hd k t (by omega) (by omega) e.symm, writes_other k fun t ht e => by have := hp t k (by omega) (by omega) e; omega]
    show ((swaps l p q k).set (p k) ((swaps l p q k).getD (q k) 0)).set (q k) ((swaps l p q k).getD (p k) 0) = (writes ((writes l p (fun t => l.getD (q t) 0) k).set (p k) (l.getD (q k) 0)) q (fun t => l.getD (p t) 0) k).set (q k) (l.getD (p k) 0)
    rw [e1, e2, ih, writes_set_comm k fun t ht e => hd k t (by omega) (by omega) e.symm]
def withV (m : VecM) (l : List Nat) : VecM := ⟨l, m.off, m.n, m.inc⟩
theorem withV_right {m : VecM} {l : List Nat} (h : l.length = m.ws.length) : (withV m l).right = m.right := by unfold withV VecM.right; simp only [h]
theorem VecM.place_inj {m : VecM} (h : m.right = true) {s t : Nat} (hs : (s : Int) < m.n) (ht : (t : Int) < m.n) (e : m.place s = m.place t) : s = t := by
  have h1 := m.right_place h hs
  have h2 := m.right_place h ht
  have h3 := m.right_n h
  unfold VecM.place at e
  have e2 : (s : Int) * m.inc = t * m.inc := by omega
  have := Int.eq_of_mul_eq_mul_right (by omega) e2
  omega
theorem VecM.place_lt {m : VecM} (h : m.right = true) {s : Nat} (hs : (s : Int) < m.n) : m.place s < m.ws.length := by
  have h1 := m.right_place h hs
  unfold VecM.place; omega
theorem VecM.list_get {m : VecM} {t : Nat} (ht : (t : Int) < m.n) : m.list.getD t 0 = m.num t := by
  have h1 : t < m.n.toNat := by omega
  unfold VecM.list
  rw [List.getD_eq_getElem?_getD, List.getElem?_map, List.getElem?_range h1]; rfl
theorem VecM.list_length {m : VecM} : m.list.length = m.n.toNat := by unfold VecM.list; simp
/-- Do two vectors' places meet, of the first i of one? -/
def meetsTo (a b : VecM) (i : Nat) : Bool := (List.range i).any fun s => (List.range b.n.toNat).any fun t => decide (a.off + s * a.inc = b.off + t * b.inc)
def meetsB (a b : VecM) : Bool := meetsTo a b a.n.toNat
theorem meetsTo_succ (a b : VecM) (i : Nat) : meetsTo a b (i + 1) = (meetsTo a b i || (List.range b.n.toNat).any fun t => decide (a.off + i * a.inc = b.off + t * b.inc)) := by
  unfold meetsTo; rw [List.range_succ, List.any_append]; simp
def hitTo (p : Int) (b : VecM) (k : Nat) : Bool := (List.range k).any fun t => decide (p = b.off + t * b.inc)
theorem hitTo_succ (p : Int) (b : VecM) (k : Nat) : hitTo p b (k + 1) = (hitTo p b k || decide (p = b.off + k * b.inc)) := by
  unfold hitTo; rw [List.range_succ, List.any_append]; simp
theorem hit_iff (far inc n : Int) (h : 1 ≤ inc) : (0 ≤ far ∧ far % inc = 0 ∧ far / inc < n) ↔ ∃ t : Nat, t < n.toNat ∧ far = t * inc := by
  constructor
  · rintro ⟨h1, h2, h3⟩
    have h4 : 0 ≤ far / inc := Int.ediv_nonneg h1 (by omega)
    refine ⟨(far / inc).toNat, by omega, ?_⟩
    rw [Int.toNat_of_nonneg h4]
    have := Int.mul_ediv_add_emod far inc
    rw [h2, Int.mul_comm] at this; omega
  · rintro ⟨t, h1, rfl⟩
    refine ⟨Int.mul_nonneg (by omega) (by omega), by simp, ?_⟩
    rw [Int.mul_ediv_cancel _ (by omega)]; omega
theorem hit_B (p : Int) (b : VecM) (h : 1 ≤ b.inc) : (decide (0 ≤ p - b.off) && decide ((p - b.off) % b.inc = 0) && decide ((p - b.off) / b.inc < b.n)) = hitTo p b b.n.toNat := by
  rw [Bool.eq_iff_iff]
  unfold hitTo
  simp only [Bool.and_eq_true, decide_eq_true_eq, List.any_eq_true, List.mem_range]
  rw [and_assoc, hit_iff _ _ _ h]
  constructor
  · rintro ⟨t, h1, h2⟩; exact ⟨t, h1, by omega⟩
  · rintro ⟨t, h1, h2⟩; exact ⟨t, h1, by omega⟩
theorem meetsTo_mono {a b : VecM} {i j : Nat} (h : meetsTo a b i = true) (hij : i ≤ j) : meetsTo a b j = true := by
  unfold meetsTo at *
  rw [List.any_eq_true] at *
  obtain ⟨s, h1, h2⟩ := h
  exact ⟨s, by simp only [List.mem_range] at *; omega, h2⟩
theorem meetsB_no {a b : VecM} (h : meetsB a b = false) (ha : a.right = true) (hb : b.right = true) {s t : Nat} (hs : (s : Int) < a.n) (ht : (t : Int) < b.n) : a.place s ≠ b.place t := by
  intro e
  have h1 := a.right_place ha hs
  have h2 := b.right_place hb ht
  unfold VecM.place at e
  unfold meetsB meetsTo at h
  rw [List.any_eq_false] at h
  have h3 := h s (by simp only [List.mem_range]; omega)
  rw [List.any_eq_true] at h3
  exact h3 ⟨t, by simp only [List.mem_range]; omega, by rw [decide_eq_true_eq]; omega⟩
def pairE (a b : VecM) (one : Bool) : Int := if a.right = true ∧ b.right = true then (if a.n = b.n then (if one = true ∧ meetsB a b = true then 2 else 0) else 3) else 1
/-- What move.Copy makes of the list it writes, k numbers long: of a list of its own, or of the same. -/
theorem copy_own {a b : VecM} (hb : b.n = a.n) : writes a.ws a.place b.num a.n.toNat = VecMwrite a b.list := by
  unfold VecMwrite VecMwriteTo
  rw [VecM.list_length, hb, Nat.min_self]
  exact writes_congr _ fun t ht => ⟨rfl, (VecM.list_get (by omega)).symm⟩
end Sedge
end
section
/-
  The worlds behind a place in the code: blocks of a list may be written, all else of what stood there stands.
-/
set_option linter.unusedSimpArgs false
set_option linter.unusedVariables false
namespace Sedge
open Go Go.RowKit
/-- What stood in V stands in w, but for the blocks of G. -/
structure But (V : World) (G : List Nat) (w : World) : Prop where
  os : w.os = V.os
  tape : w.tape = V.tape
  output : w.output = V.output
  size : V.heap.size ≤ w.heap.size
  block : ∀ k, k < V.heap.size → k ∉ G → w.heap[k]? = V.heap[k]?
section
variable {V w w' : World} {G : List Nat}
theorem But.refl (V : World) (G : List Nat) : But V G V := ⟨rfl, rfl, rfl, Nat.le_refl _, fun _ _ _ => rfl⟩
theorem But.grew (h : But V G w) (g : Grew w w') : But V G w' := by
  have b := g.below
  exact ⟨b.os.trans h.os, b.tape.trans h.tape, b.output.trans h.output, Nat.le_trans h.size b.size, fun k hk hG => (b.block k (Nat.lt_of_lt_of_le hk h.size)).trans (h.block k hk hG)⟩
theorem But.wrote {g : Nat} {ws : List Nat} (h : But V G w) (k : Wrote w w' g ws) (hg : g ∈ G ∨ V.heap.size ≤ g) : But V G w' := by
  obtain ⟨cs, o, n, rfl, _⟩ := k
  refine ⟨h.os, h.tape, h.output, ?_, fun k hk hG => ?_⟩
  · have := h.size; simp only [Sedge.ext, Array.size_append]; rw [size_upd]; omega
  · have hs := h.size
    have hne : k ≠ g := by
      rintro rfl
      rcases hg with hg | hg
      · exact hG hg
      · omega
    rw [block_ext (by rw [size_upd]; omega), block_upd_ne hne]
    exact h.block k hk hG
theorem But.upd {g : Nat} (h : But V G w) (hg : g ∈ G ∨ V.heap.size ≤ g) (cs : Array Value) : But V G (upd w g cs) := by
  refine ⟨h.os, h.tape, h.output, ?_, fun k hk hG => ?_⟩
  · rw [size_upd]; exact h.size
  · have hne : k ≠ g := by
      rintro rfl
      rcases hg with hg | hg
      · exact hG hg
      · omega
    rw [block_upd_ne hne]
    exact h.block k hk hG
theorem But.cell {b i : Nat} (h : But V G w) (hb : b < V.heap.size) (hG : b ∉ G) : w.cell? ⟨b, i, none⟩ = V.cell? ⟨b, i, none⟩ := by
  unfold World.cell?; simp only [h.block b hb hG]
theorem But.grew0 {W : World} (h : But V G w) (hW : Grew W V) (hG : ∀ k ∈ G, W.heap.size ≤ k) : Grew W w := by
  have b := hW.below
  refine Grew.of_below ⟨h.os.trans b.os, h.tape.trans b.tape, h.output.trans b.output, Nat.le_trans b.size h.size, fun k hk => ?_⟩
  exact (h.block k (Nat.lt_of_lt_of_le hk b.size) (fun hm => by have := hG k hm; omega)).trans (b.block k hk)
theorem But.fw {g : Nat} {ws : List Nat} (h : But V G w) (hF : FW V g ws) (hG : g ∉ G) : FW w g ws := hF.same (h.block g hF.lt hG)
theorem But.mono {G' : List Nat} (h : But V G w) (hs : ∀ k ∈ G, k ∈ G') : But V G' w := ⟨h.os, h.tape, h.output, h.size, fun k hk hn => h.block k hk (fun e => hn (hs k e))⟩
theorem But.trans {w'' : World} {H : List Nat} (h : But V G w) (k : But w H w'') (hH : ∀ b ∈ H, b ∈ G ∨ V.heap.size ≤ b) : But V G w'' :=
  ⟨k.os.trans h.os, k.tape.trans h.tape, k.output.trans h.output, Nat.le_trans h.size k.size, fun b hb hG => (k.block b (Nat.lt_of_lt_of_le hb h.size) (fun e => (hH b e).elim hG (fun h1 => by omega))).trans (h.block b hb hG)⟩
end
theorem cell_of_block {w : World} {p i : Nat} {cs : Array Value} {e : TypeId} {f : Nat × Nat} (h : w.heap[p]? = some (.cells cs e f)) : w.cell? ⟨p, i, none⟩ = cs[i]? := by
  unfold World.cell?; simp [h]
theorem But.box {V : World} {G : List Nat} {p : Nat} {cs : Array Value} {e : TypeId} {f : Nat × Nat} (h : V.heap[p]? = some (.cells cs e f)) (hG : p ∉ G) : ∀ w', But V G w' → ∀ i, w'.cell? ⟨p, i, none⟩ = cs[i]? :=
  fun w' hb i => (hb.cell ((Array.getElem?_eq_some_iff.1 h).1) hG).trans (cell_of_block h)
theorem But.boxW {W V : World} {G : List Nat} {p : Nat} {cs : Array Value} (gV : Grew W V) (hp : p < W.heap.size) (h : ∀ i, W.cell? ⟨p, i, none⟩ = cs[i]?) (hG : ∀ k ∈ G, W.heap.size ≤ k) : ∀ w', But V G w' → ∀ i, w'.cell? ⟨p, i, none⟩ = cs[i]? :=
  fun w' hb i => (hb.cell (Nat.lt_of_lt_of_le hp gV.below.size) (fun hm => by have := hG p hm; omega)).trans ((gV.cell hp).trans (h i))
theorem But.fs {W V : World} {G : List Nat} {D : Value} {ws : List Nat} (gV : Grew W V) (h : FS W D ws) (hG : ∀ k ∈ G, W.heap.size ≤ k) : ∀ w', But V G w' → FS w' D ws :=
  fun _ hb => h.grew (hb.grew0 gV hG)
theorem But.is {W V : World} {G : List Nat} {D : Value} {k : IntKind} {zs : List Int} (gV : Grew W V) (h : IS k W D zs) (hG : ∀ k ∈ G, W.heap.size ≤ k) : ∀ w', But V G w' → IS k w' D zs :=
  fun _ hb => h.grew (hb.grew0 gV hG)
theorem ne_own {own : Nat → Nat} {p q a b : Nat} (h1 : own p = a) (h2 : own q = b) (h : a ≠ b) : p ≠ q := fun e => h (by rw [← h1, ← h2, e])
theorem FW.setc {w : World} {g : Nat} {ws : List Nat} (h : FW w g ws) {k r x : Nat} (hr : IsF r x) : FW (w.setCell ⟨g, k, none⟩ (.float .f64 r)) g (ws.set k x) := (h.wrote hr).fw h
theorem But.setc {V w : World} {G : List Nat} {g k r : Nat} {ws : List Nat} (h : But V G w) (hF : FW w g ws) (hg : g ∈ G) : But V G (w.setCell ⟨g, k, none⟩ (.float .f64 r)) := by
  obtain ⟨cs, h1, _⟩ := hF.self
  have : w.setCell ⟨g, k, none⟩ (.float .f64 r) = Sedge.upd w g (cs.setIfInBounds k (.float .f64 r)) := by rw [← setCell_upd, h1]
  rw [this]; exact h.upd (.inl hg) _
end Sedge
end
