/-
  Contracts: move.Swap.
-/
import Derived.Test.YtcmggfpcbijcjaaVec4
set_option linter.unusedSimpArgs false
set_option linter.unusedVariables false
open Go Go.RowKit Sedge
namespace Go.Proofs.Ytcmggfpcbijcjaa
def swapL (x y : VecM) : List Nat := if pairE x y true = 0 then VecMwrite (withV y (VecMwrite x y.list)) x.list else x.ws
theorem swaps_write {x y : VecM} (hxy : y.ws = x.ws) (h : pairE x y true = 0) : swaps x.ws x.place y.place x.n.toNat = VecMwrite (withV y (VecMwrite x y.list)) x.list := by
  obtain ⟨hx, hy, hn, hm⟩ := pairE_ok h
  have hm' : meetsB x y = false := by simpa using hm
  rw [swaps_eq _ (fun s t hs ht e => VecM.place_inj hx (by omega) (by omega) e) (fun s t hs ht e => VecM.place_inj hy (by omega) (by omega) e) (fun s t hs ht => meetsB_no hm' hx hy (by omega) (by omega))]
  rw [← copy_own (a := withV y (VecMwrite x y.list)) (b := x) hn, ← copy_own (a := x) (b := y) hn.symm]
  show _ = writes (writes x.ws x.place y.num x.n.toNat) y.place x.num y.n.toNat
  rw [← hn]
  have e : (fun t => x.ws.getD (y.place t) 0) = y.num := funext fun t => by unfold VecM.num; rw [hxy]
  rw [e]; rfl
set_option maxRecDepth 100000 in
set_option maxHeartbeats 1000000 in
/-- move.Swap, in one list. -/
theorem swapO_any (x y : VecM) (a ca : Nat) (w : World) (hF : FW w a x.ws) (hxy : y.ws = x.ws) (hwx : x.wf) (hwy : y.wf) (hlx : x.ws.length ≤ 1000000) :
   Calls Try.prog 64 #[.agg #[.slice (some ⟨a, 0, none⟩) x.ws.length ca, .int .i64 x.off, .int .i64 x.n, .int .i64 x.inc], .agg #[.slice (some ⟨a, 0, none⟩) x.ws.length ca, .int .i64 y.off, .int .i64 y.n, .int .i64 y.inc]] w
     (fun e w' => e = .returned (.int .i64 (pairE x y true)) ∧ Wrote w w' a (swapL x y)) := by
  have hA := hF.fs (by omega) ca
  have hltg := hF.lt
  have hpc : ∀ w', Plain w' a → FS w' (.slice (some ⟨a, 0, none⟩) x.ws.length ca) x.ws → Calls Try.prog 63 #[.agg #[.slice (some ⟨a, 0, none⟩) x.ws.length ca, .int .i64 x.off, .int .i64 x.n, .int .i64 x.inc], .agg #[.slice (some ⟨a, 0, none⟩) x.ws.length ca, .int .i64 y.off, .int .i64 y.n, .int .i64 y.inc]] w'
      (fun e w2 => e = .returned (.int .i64 (pairE x y true)) ∧ ∃ o n, w2 = ext w' o n) := fun w' p1 h1 => by
    have := pair_any x y a a ca ca w' h1 (by rw [hxy]; exact h1) p1 p1 hwx hwy hlx (by rw [hxy]; exact hlx)
    rw [hxy] at this; simpa using this
  by_cases hp : pairE x y true = 0
  · obtain ⟨hx, hy, hn, _⟩ := pairE_ok hp
    have hL := hid (show swapL x y = swaps x.ws x.place y.place x.n.toNat by unfold swapL; rw [if_pos hp, swaps_write hxy hp])
    have hsw : ∀ w', FW w' a x.ws → Calls Try.prog 131 #[.agg #[.slice (some ⟨a, 0, none⟩) x.ws.length ca, .int .i64 x.off, .int .i64 x.n, .int .i64 x.inc], .agg #[.slice (some ⟨a, 0, none⟩) x.ws.length ca, .int .i64 y.off, .int .i64 y.n, .int .i64 y.inc]] w'
       (fun e w2 => e = .returned (.tuple #[]) ∧ Wrote w' w2 a (swaps x.ws x.place y.place x.n.toNat)) := fun w' h => swap1_any x y a ca w' h hxy hx hy hwx hwy hn.symm hlx
    rw [hp] at hpc ⊢
    clear hx hy hn hp hwx hwy hxy
    go_enter Try.func64, Try.ntmps64
    refine seq_stop ?_
    go_wp2
    refine stop_go (fun W hW => ?_)
    have s1 : w.heap.size < W.heap.size := by rw [hW]; simp only [World.size_alloc]; omega
    have b1 : ∀ i, W.cell? ⟨w.heap.size, i, none⟩ = (#[.slice (some ⟨a, 0, none⟩) x.ws.length ca, .int .i64 x.off, .int .i64 x.n, .int .i64 x.inc] : Array Value)[i]? := by intro i; rw [hW]; go_simp
    have s2 : w.heap.size + 1 < W.heap.size := by rw [hW]; simp only [World.size_alloc]; omega
    have b2 : ∀ i, W.cell? ⟨w.heap.size + 1, i, none⟩ = (#[.slice (some ⟨a, 0, none⟩) x.ws.length ca, .int .i64 y.off, .int .i64 y.n, .int .i64 y.inc] : Array Value)[i]? := by intro i; rw [hW]; go_simp
    have g0 : Grew w W := by rw [hW]; exact ((Grew.refl _).alloc _).alloc _
    clear hW
    have hAW := hA.grew g0
    have hFW := hF.grew g0
    go_wp2_with (first | (go_at_call 63; ((with_reducible refine (hpc _ ((FW.plain hF).grew (by (show Grew _ _; repeat (first | (with_reducible exact Grew.refl _) | (with_reducible assumption) | (with_reducible refine Grew.ext ?_ _ _) | (with_reducible refine Grew.alloc ?_ _) | ((with_reducible refine Grew.setCell ?_ ?_ _); rotate_left; (focus (dsimp only; first | omega | (simp only [size_ext, World.size_alloc, Array.size_append]; omega)))) | (with_reducible refine Grew.drewN ?_ _) | (with_reducible refine Grew.drew ?_))))) ?_).mono ?_); (focus (first | (with_reducible assumption) | (with_reducible refine FS.ext ?_ _ _; with_reducible assumption) | (with_reducible refine IS.ext ?_ _ _; with_reducible assumption) | (refine hDu _ ?_; with_reducible assumption) | (refine hOu _ ?_; with_reducible assumption) | (refine hDa _ ?_; with_reducible assumption) | (refine hDb _ ?_; with_reducible assumption) | (refine hDc _ ?_; with_reducible assumption) | (refine hDd _ ?_; with_reducible assumption) | (refine FW.fs ?_ (by omega) _; with_reducible assumption) | (refine WS.fs ?_; with_reducible assumption) | (refine FW.fs ?_ (by omega) _; assumption) | omega | assumption)); rintro e w1 ⟨rfl, o1, n1, rfl⟩)) | (go_at_call 131; ((with_reducible refine (hsw _ (hFW.ext _ _)).mono ?_); rintro e w1 ⟨rfl, hw1⟩; (have gw := Wrote.grew_l (g0.ext _ _) (by omega) hw1))))
    go_ret
    exact ⟨rfl, by rw [hL.out]; exact gw⟩
  · have hL := hid (show swapL x y = x.ws by unfold swapL; rw [if_neg hp])
    obtain ⟨E, hE⟩ : ∃ E, E = pairE x y true := ⟨_, rfl⟩
    rw [← hE] at hp hpc ⊢
    have d2 : (E == 0) = false := by simpa using hp
    clear hE hwx hwy hxy
    go_enter Try.func64, Try.ntmps64
    refine seq_stop ?_
    go_wp2
    refine stop_go (fun W hW => ?_)
    have s1 : w.heap.size < W.heap.size := by rw [hW]; simp only [World.size_alloc]; omega
    have b1 : ∀ i, W.cell? ⟨w.heap.size, i, none⟩ = (#[.slice (some ⟨a, 0, none⟩) x.ws.length ca, .int .i64 x.off, .int .i64 x.n, .int .i64 x.inc] : Array Value)[i]? := by intro i; rw [hW]; go_simp
    have s2 : w.heap.size + 1 < W.heap.size := by rw [hW]; simp only [World.size_alloc]; omega
    have b2 : ∀ i, W.cell? ⟨w.heap.size + 1, i, none⟩ = (#[.slice (some ⟨a, 0, none⟩) x.ws.length ca, .int .i64 y.off, .int .i64 y.n, .int .i64 y.inc] : Array Value)[i]? := by intro i; rw [hW]; go_simp
    have g0 : Grew w W := by rw [hW]; exact ((Grew.refl _).alloc _).alloc _
    clear hW
    have hAW := hA.grew g0
    go_wp2_with (first | (go_at_call 63; ((with_reducible refine (hpc _ ((FW.plain hF).grew (by (show Grew _ _; repeat (first | (with_reducible exact Grew.refl _) | (with_reducible assumption) | (with_reducible refine Grew.ext ?_ _ _) | (with_reducible refine Grew.alloc ?_ _) | ((with_reducible refine Grew.setCell ?_ ?_ _); rotate_left; (focus (dsimp only; first | omega | (simp only [size_ext, World.size_alloc, Array.size_append]; omega)))) | (with_reducible refine Grew.drewN ?_ _) | (with_reducible refine Grew.drew ?_))))) ?_).mono ?_); (focus (first | (with_reducible assumption) | (with_reducible refine FS.ext ?_ _ _; with_reducible assumption) | (with_reducible refine IS.ext ?_ _ _; with_reducible assumption) | (refine hDu _ ?_; with_reducible assumption) | (refine hOu _ ?_; with_reducible assumption) | (refine hDa _ ?_; with_reducible assumption) | (refine hDb _ ?_; with_reducible assumption) | (refine hDc _ ?_; with_reducible assumption) | (refine hDd _ ?_; with_reducible assumption) | (refine FW.fs ?_ (by omega) _; with_reducible assumption) | (refine WS.fs ?_; with_reducible assumption) | (refine FW.fs ?_ (by omega) _; assumption) | omega | assumption)); rintro e w1 ⟨rfl, o1, n1, rfl⟩)))
    go_ret
    exact ⟨rfl, by rw [hL.out]; exact Wrote.grew_r (Wrote.refl hF) (by (show Grew _ _; repeat (first | (with_reducible exact Grew.refl _) | (with_reducible assumption) | (with_reducible refine Grew.ext ?_ _ _) | (with_reducible refine Grew.alloc ?_ _) | ((with_reducible refine Grew.setCell ?_ ?_ _); rotate_left; (focus (dsimp only; first | omega | (simp only [size_ext, World.size_alloc, Array.size_append]; omega)))) | (with_reducible refine Grew.drewN ?_ _) | (with_reducible refine Grew.drew ?_))))⟩
def swapX (x y : VecM) : List Nat := if pairE x y false = 0 then VecMwrite x y.list else x.ws
def swapY (x y : VecM) : List Nat := if pairE x y false = 0 then VecMwrite y x.list else y.ws
set_option maxRecDepth 100000 in
set_option maxHeartbeats 1000000 in
/-- move.Swap, in two lists. -/
theorem swapT_any (x y : VecM) (a b ca cb : Nat) (w : World) (hF : FW w a x.ws) (hH : FW w b y.ws) (hab : a ≠ b) (hwx : x.wf) (hwy : y.wf) (hlx : x.ws.length ≤ 1000000) (hly : y.ws.length ≤ 1000000) :
   Calls Try.prog 64 #[.agg #[.slice (some ⟨a, 0, none⟩) x.ws.length ca, .int .i64 x.off, .int .i64 x.n, .int .i64 x.inc], .agg #[.slice (some ⟨b, 0, none⟩) y.ws.length cb, .int .i64 y.off, .int .i64 y.n, .int .i64 y.inc]] w
     (fun e w' => e = .returned (.int .i64 (pairE x y false)) ∧ But w [a, b] w' ∧ FW w' a (swapX x y) ∧ FW w' b (swapY x y)) := by
  have hA := hF.fs (by omega) ca
  have hB := hH.fs (by omega) cb
  have hltg := hF.lt
  have hpc : ∀ w', Plain w' a → Plain w' b → FS w' (.slice (some ⟨a, 0, none⟩) x.ws.length ca) x.ws → FS w' (.slice (some ⟨b, 0, none⟩) y.ws.length cb) y.ws → Calls Try.prog 63 #[.agg #[.slice (some ⟨a, 0, none⟩) x.ws.length ca, .int .i64 x.off, .int .i64 x.n, .int .i64 x.inc], .agg #[.slice (some ⟨b, 0, none⟩) y.ws.length cb, .int .i64 y.off, .int .i64 y.n, .int .i64 y.inc]] w'
      (fun e w2 => e = .returned (.int .i64 (pairE x y false)) ∧ ∃ o n, w2 = ext w' o n) := fun w' p1 p2 h1 h2 => by
    have := pair_any x y a b ca cb w' h1 h2 p1 p2 hwx hwy hlx hly
    rw [show decide (a = b) = false by simpa using hab] at this; exact this
  have gb : ∀ w', Grew w w' → But w [a, b] w' := fun w' g => (But.refl w [a, b]).grew g
  by_cases hp : pairE x y false = 0
  · obtain ⟨hx, hy, hn, _⟩ := pairE_ok hp
    have hL := hid (show swapX x y = VecMwrite x y.list by unfold swapX; rw [if_pos hp])
    have hM := hid (show swapY x y = VecMwrite y x.list by unfold swapY; rw [if_pos hp])
    have hsw : ∀ w', FW w' a x.ws → FW w' b y.ws → Calls Try.prog 131 #[.agg #[.slice (some ⟨a, 0, none⟩) x.ws.length ca, .int .i64 x.off, .int .i64 x.n, .int .i64 x.inc], .agg #[.slice (some ⟨b, 0, none⟩) y.ws.length cb, .int .i64 y.off, .int .i64 y.n, .int .i64 y.inc]] w'
       (fun e w2 => e = .returned (.tuple #[]) ∧ But w' [a, b] w2 ∧ FW w2 a (VecMwrite x y.list) ∧ FW w2 b (VecMwrite y x.list)) := fun w' h1 h2 => by
      have := swap2_any x y a b ca cb w' h1 h2 hab hx hy hn.symm hlx hly
      rw [← hn]; exact this
    rw [hp] at hpc ⊢
    clear hx hy hn hp hwx hwy
    go_enter Try.func64, Try.ntmps64
    refine seq_stop ?_
    go_wp2
    refine stop_go (fun W hW => ?_)
    have s1 : w.heap.size < W.heap.size := by rw [hW]; simp only [World.size_alloc]; omega
    have b1 : ∀ i, W.cell? ⟨w.heap.size, i, none⟩ = (#[.slice (some ⟨a, 0, none⟩) x.ws.length ca, .int .i64 x.off, .int .i64 x.n, .int .i64 x.inc] : Array Value)[i]? := by intro i; rw [hW]; go_simp
    have s2 : w.heap.size + 1 < W.heap.size := by rw [hW]; simp only [World.size_alloc]; omega
    have b2 : ∀ i, W.cell? ⟨w.heap.size + 1, i, none⟩ = (#[.slice (some ⟨b, 0, none⟩) y.ws.length cb, .int .i64 y.off, .int .i64 y.n, .int .i64 y.inc] : Array Value)[i]? := by intro i; rw [hW]; go_simp
    have g0 : Grew w W := by rw [hW]; exact ((Grew.refl _).alloc _).alloc _
    clear hW
    have hAW := hA.grew g0
    have hBW := hB.grew g0
    have hFW := hF.grew g0
    have hHW := hH.grew g0
    go_wp2_with (first | (go_at_call 63; ((with_reducible refine (hpc _ ((FW.plain hF).grew (by (show Grew _ _; repeat (first | (with_reducible exact Grew.refl _) | (with_reducible assumption) | (with_reducible refine Grew.ext ?_ _ _) | (with_reducible refine Grew.alloc ?_ _) | ((with_reducible refine Grew.setCell ?_ ?_ _); rotate_left; (focus (dsimp only; first | omega | (simp only [size_ext, World.size_alloc, Array.size_append]; omega)))) | (with_reducible refine Grew.drewN ?_ _) | (with_reducible refine Grew.drew ?_))))) ((FW.plain hH).grew (by (show Grew _ _; repeat (first | (with_reducible exact Grew.refl _) | (with_reducible assumption) | (with_reducible refine Grew.ext ?_ _ _) | (with_reducible refine Grew.alloc ?_ _) | ((with_reducible refine Grew.setCell ?_ ?_ _); rotate_left; (focus (dsimp only; first | omega | (simp only [size_ext, World.size_alloc, Array.size_append]; omega)))) | (with_reducible refine Grew.drewN ?_ _) | (with_reducible refine Grew.drew ?_))))) ?_ ?_).mono ?_); (focus (first | (with_reducible assumption) | (with_reducible refine FS.ext ?_ _ _; with_reducible assumption) | (with_reducible refine IS.ext ?_ _ _; with_reducible assumption) | (refine hDu _ ?_; with_reducible assumption) | (refine hOu _ ?_; with_reducible assumption) | (refine hDa _ ?_; with_reducible assumption) | (refine hDb _ ?_; with_reducible assumption) | (refine hDc _ ?_; with_reducible assumption) | (refine hDd _ ?_; with_reducible assumption) | (refine FW.fs ?_ (by omega) _; with_reducible assumption) | (refine WS.fs ?_; with_reducible assumption) | (refine FW.fs ?_ (by omega) _; assumption) | omega | assumption)); (focus (first | (with_reducible assumption) | (with_reducible refine FS.ext ?_ _ _; with_reducible assumption) | (with_reducible refine IS.ext ?_ _ _; with_reducible assumption) | (refine hDu _ ?_; with_reducible assumption) | (refine hOu _ ?_; with_reducible assumption) | (refine hDa _ ?_; with_reducible assumption) | (refine hDb _ ?_; with_reducible assumption) | (refine hDc _ ?_; with_reducible assumption) | (refine hDd _ ?_; with_reducible assumption) | (refine FW.fs ?_ (by omega) _; with_reducible assumption) | (refine WS.fs ?_; with_reducible assumption) | (refine FW.fs ?_ (by omega) _; assumption) | omega | assumption)); rintro e w1 ⟨rfl, o1, n1, rfl⟩)) | (go_at_call 131; ((with_reducible refine (hsw _ (hFW.ext _ _) (hHW.ext _ _)).mono ?_); rintro e w1 ⟨rfl, hb1, hf1, hf2⟩; (have gw := (gb _ (g0.ext o1 n1)).trans hb1 (fun b hb => .inl hb)))))
    go_ret
    exact ⟨rfl, gw, by rw [hL.out]; exact hf1, by rw [hM.out]; exact hf2⟩
  · have hL := hid (show swapX x y = x.ws by unfold swapX; rw [if_neg hp])
    have hM := hid (show swapY x y = y.ws by unfold swapY; rw [if_neg hp])
    obtain ⟨E, hE⟩ : ∃ E, E = pairE x y false := ⟨_, rfl⟩
    rw [← hE] at hp hpc ⊢
    have d2 : (E == 0) = false := by simpa using hp
    clear hE hwx hwy
    go_enter Try.func64, Try.ntmps64
    refine seq_stop ?_
    go_wp2
    refine stop_go (fun W hW => ?_)
    have s1 : w.heap.size < W.heap.size := by rw [hW]; simp only [World.size_alloc]; omega
    have b1 : ∀ i, W.cell? ⟨w.heap.size, i, none⟩ = (#[.slice (some ⟨a, 0, none⟩) x.ws.length ca, .int .i64 x.off, .int .i64 x.n, .int .i64 x.inc] : Array Value)[i]? := by intro i; rw [hW]; go_simp
    have s2 : w.heap.size + 1 < W.heap.size := by rw [hW]; simp only [World.size_alloc]; omega
    have b2 : ∀ i, W.cell? ⟨w.heap.size + 1, i, none⟩ = (#[.slice (some ⟨b, 0, none⟩) y.ws.length cb, .int .i64 y.off, .int .i64 y.n, .int .i64 y.inc] : Array Value)[i]? := by intro i; rw [hW]; go_simp
    have g0 : Grew w W := by rw [hW]; exact ((Grew.refl _).alloc _).alloc _
    clear hW
    have hAW := hA.grew g0
    have hBW := hB.grew g0
    go_wp2_with (first | (go_at_call 63; ((with_reducible refine (hpc _ ((FW.plain hF).grew (by (show Grew _ _; repeat (first | (with_reducible exact Grew.refl _) | (with_reducible assumption) | (with_reducible refine Grew.ext ?_ _ _) | (with_reducible refine Grew.alloc ?_ _) | ((with_reducible refine Grew.setCell ?_ ?_ _); rotate_left; (focus (dsimp only; first | omega | (simp only [size_ext, World.size_alloc, Array.size_append]; omega)))) | (with_reducible refine Grew.drewN ?_ _) | (with_reducible refine Grew.drew ?_))))) ((FW.plain hH).grew (by (show Grew _ _; repeat (first | (with_reducible exact Grew.refl _) | (with_reducible assumption) | (with_reducible refine Grew.ext ?_ _ _) | (with_reducible refine Grew.alloc ?_ _) | ((with_reducible refine Grew.setCell ?_ ?_ _); rotate_left; (focus (dsimp only; first | omega | (simp only [size_ext, World.size_alloc, Array.size_append]; omega)))) | (with_reducible refine Grew.drewN ?_ _) | (with_reducible refine Grew.drew ?_))))) ?_ ?_).mono ?_); (focus (first | (with_reducible assumption) | (with_reducible refine FS.ext ?_ _ _; with_reducible assumption) | (with_reducible refine IS.ext ?_ _ _; with_reducible assumption) | (refine hDu _ ?_; with_reducible assumption) | (refine hOu _ ?_; with_reducible assumption) | (refine hDa _ ?_; with_reducible assumption) | (refine hDb _ ?_; with_reducible assumption) | (refine hDc _ ?_; with_reducible assumption) | (refine hDd _ ?_; with_reducible assumption) | (refine FW.fs ?_ (by omega) _; with_reducible assumption) | (refine WS.fs ?_; with_reducible assumption) | (refine FW.fs ?_ (by omega) _; assumption) | omega | assumption)); (focus (first | (with_reducible assumption) | (with_reducible refine FS.ext ?_ _ _; with_reducible assumption) | (with_reducible refine IS.ext ?_ _ _; with_reducible assumption) | (refine hDu _ ?_; with_reducible assumption) | (refine hOu _ ?_; with_reducible assumption) | (refine hDa _ ?_; with_reducible assumption) | (refine hDb _ ?_; with_reducible assumption) | (refine hDc _ ?_; with_reducible assumption) | (refine hDd _ ?_; with_reducible assumption) | (refine FW.fs ?_ (by omega) _; with_reducible assumption) | (refine WS.fs ?_; with_reducible assumption) | (refine FW.fs ?_ (by omega) _; assumption) | omega | assumption)); rintro e w1 ⟨rfl, o1, n1, rfl⟩)))
    go_ret
    exact ⟨rfl, gb _ (by (show Grew _ _; repeat (first | (with_reducible exact Grew.refl _) | (with_reducible assumption) | (with_reducible refine Grew.ext ?_ _ _) | (with_reducible refine Grew.alloc ?_ _) | ((with_reducible refine Grew.setCell ?_ ?_ _); rotate_left; (focus (dsimp only; first | omega | (simp only [size_ext, World.size_alloc, Array.size_append]; omega)))) | (with_reducible refine Grew.drewN ?_ _) | (with_reducible refine Grew.drew ?_)))), by rw [hL.out]; exact hF.grew (by (show Grew _ _; repeat (first | (with_reducible exact Grew.refl _) | (with_reducible assumption) | (with_reducible refine Grew.ext ?_ _ _) | (with_reducible refine Grew.alloc ?_ _) | ((with_reducible refine Grew.setCell ?_ ?_ _); rotate_left; (focus (dsimp only; first | omega | (simp only [size_ext, World.size_alloc, Array.size_append]; omega)))) | (with_reducible refine Grew.drewN ?_ _) | (with_reducible refine Grew.drew ?_)))), by rw [hM.out]; exact hH.grew (by (show Grew _ _; repeat (first | (with_reducible exact Grew.refl _) | (with_reducible assumption) | (with_reducible refine Grew.ext ?_ _ _) | (with_reducible refine Grew.alloc ?_ _) | ((with_reducible refine Grew.setCell ?_ ?_ _); rotate_left; (focus (dsimp only; first | omega | (simp only [size_ext, World.size_alloc, Array.size_append]; omega)))) | (with_reducible refine Grew.drewN ?_ _) | (with_reducible refine Grew.drew ?_))))⟩
end Go.Proofs.Ytcmggfpcbijcjaa
