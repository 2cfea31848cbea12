/-
  Contracts: move.Copy, move.Swap.
-/
import Derived.Test.YtcmggfpcbijcjaaVec3
set_option linter.unusedSimpArgs false
set_option linter.unusedVariables false
open Go Go.RowKit Sedge
namespace Go.Proofs.Ytcmggfpcbijcjaa
theorem pairE_ok {x y : VecM} {one : Bool} (h : pairE x y one = 0) : x.right = true ∧ y.right = true ∧ x.n = y.n ∧ (one && meetsB x y) = false := by
  unfold pairE at h
  split at h
  · rename_i h1
    split at h
    · rename_i h2
      split at h
      · cases h
      · rename_i h3
        refine ⟨h1.1, h1.2, h2, ?_⟩
        rw [Bool.eq_false_iff]; intro h4; exact h3 (by simpa using h4)
    · cases h
  · cases h
def copyL (x y : VecM) (one : Bool) : List Nat := if pairE x y one = 0 then VecMwrite x y.list else x.ws
set_option maxRecDepth 100000 in
set_option maxHeartbeats 1000000 in
/-- move.Copy. -/
theorem copy_any (x y : VecM) (a b ca cb : Nat) (w : World) (hF : FW w a x.ws) (hPb : Plain w b) (hB : FS w (.slice (some ⟨b, 0, none⟩) y.ws.length cb) y.ws) (hab : a = b → y.ws = x.ws) (hwx : x.wf) (hwy : y.wf) (hlx : x.ws.length ≤ 1000000) (hly : y.ws.length ≤ 1000000) :
   Calls Try.prog 65 #[.agg #[.slice (some ⟨a, 0, none⟩) x.ws.length ca, .int .i64 x.off, .int .i64 x.n, .int .i64 x.inc], .agg #[.slice (some ⟨b, 0, none⟩) y.ws.length cb, .int .i64 y.off, .int .i64 y.n, .int .i64 y.inc]] w
     (fun e w' => e = .returned (.int .i64 (pairE x y (decide (a = b)))) ∧ Wrote w w' a (copyL x y (decide (a = b)))) := by
  have hA := hF.fs (by omega) ca
  have hltg := hF.lt
  by_cases hp : pairE x y (decide (a = b)) = 0
  · obtain ⟨hx, hy, hn, hm⟩ := pairE_ok hp
    have hL := hid (show copyL x y (decide (a = b)) = VecMwrite x y.list by unfold copyL; rw [if_pos hp])
    have hpc : ∀ w', Plain w' a → Plain w' b → FS w' (.slice (some ⟨a, 0, none⟩) x.ws.length ca) x.ws → FS w' (.slice (some ⟨b, 0, none⟩) y.ws.length cb) y.ws → Calls Try.prog 63 #[.agg #[.slice (some ⟨a, 0, none⟩) x.ws.length ca, .int .i64 x.off, .int .i64 x.n, .int .i64 x.inc], .agg #[.slice (some ⟨b, 0, none⟩) y.ws.length cb, .int .i64 y.off, .int .i64 y.n, .int .i64 y.inc]] w'
        (fun e w2 => e = .returned (.int .i64 0) ∧ ∃ o n, w2 = ext w' o n) := fun w' p1 p2 h1 h2 => by
      have := pair_any x y a b ca cb w' h1 h2 p1 p2 hwx hwy hlx hly
      rw [hp] at this; exact this
    have hn0 := VecM.right_n hx
    have hm0 := VecM.right_n hy
    have hnl := VecM.right_nle hx hlx
    have Hx := hid hx
    have Hy := hid hy
    have Hn := hid hn
    have Hm := hid hm
    have Hp := hid hp
    have Hab := hid hab
    clear hx hy hn hm hp hwx hwy hab
    go_enter Try.func65, Try.ntmps65
    refine seq_stop ?_
    go_wp2
    refine stop_go (fun W hW => ?_)
    have s1 : w.heap.size < W.heap.size := by rw [hW]; simp only [World.size_alloc]; omega
    have b1 : ∀ i, W.cell? ⟨w.heap.size, i, none⟩ = (#[.slice (some ⟨a, 0, none⟩) x.ws.length ca, .int .i64 x.off, .int .i64 x.n, .int .i64 x.inc] : Array Value)[i]? := by intro i; rw [hW]; go_simp
    have s2 : w.heap.size + 1 < W.heap.size := by rw [hW]; simp only [World.size_alloc]; omega
    have b2 : ∀ i, W.cell? ⟨w.heap.size + 1, i, none⟩ = (#[.slice (some ⟨b, 0, none⟩) y.ws.length cb, .int .i64 y.off, .int .i64 y.n, .int .i64 y.inc] : Array Value)[i]? := by intro i; rw [hW]; go_simp
    have g0 : Grew w W := by rw [hW]; exact ((Grew.refl _).alloc _).alloc _
    clear hW
    have hAW := hA.grew g0
    have hBW := hB.grew g0
    have hFW := hF.grew g0
    have gl := hFW.lt
    have q1 : w.heap.size ≠ a := by omega
    have q2 : w.heap.size + 1 ≠ a := by omega
    have fz : ∀ i, W.frozen? ⟨a, i, none⟩ = false := hFW.notFrozen
    go_wp2_with (first | (go_at_call 63; ((with_reducible refine (hpc _ ((FW.plain hF).grew (by (show Grew _ _; repeat (first | (with_reducible exact Grew.refl _) | (with_reducible assumption) | (with_reducible refine Grew.ext ?_ _ _) | (with_reducible refine Grew.alloc ?_ _) | ((with_reducible refine Grew.setCell ?_ ?_ _); rotate_left; (focus (dsimp only; first | omega | (simp only [size_ext, World.size_alloc, Array.size_append]; omega)))) | (with_reducible refine Grew.drewN ?_ _) | (with_reducible refine Grew.drew ?_))))) (hPb.grew (by (show Grew _ _; repeat (first | (with_reducible exact Grew.refl _) | (with_reducible assumption) | (with_reducible refine Grew.ext ?_ _ _) | (with_reducible refine Grew.alloc ?_ _) | ((with_reducible refine Grew.setCell ?_ ?_ _); rotate_left; (focus (dsimp only; first | omega | (simp only [size_ext, World.size_alloc, Array.size_append]; omega)))) | (with_reducible refine Grew.drewN ?_ _) | (with_reducible refine Grew.drew ?_))))) ?_ ?_).mono ?_); (focus (first | (with_reducible assumption) | (with_reducible refine FS.ext ?_ _ _; with_reducible assumption) | (with_reducible refine IS.ext ?_ _ _; with_reducible assumption) | (refine hDu _ ?_; with_reducible assumption) | (refine hOu _ ?_; with_reducible assumption) | (refine hDa _ ?_; with_reducible assumption) | (refine hDb _ ?_; with_reducible assumption) | (refine hDc _ ?_; with_reducible assumption) | (refine hDd _ ?_; with_reducible assumption) | (refine FW.fs ?_ (by omega) _; with_reducible assumption) | (refine WS.fs ?_; with_reducible assumption) | (refine FW.fs ?_ (by omega) _; assumption) | omega | assumption)); (focus (first | (with_reducible assumption) | (with_reducible refine FS.ext ?_ _ _; with_reducible assumption) | (with_reducible refine IS.ext ?_ _ _; with_reducible assumption) | (refine hDu _ ?_; with_reducible assumption) | (refine hOu _ ?_; with_reducible assumption) | (refine hDa _ ?_; with_reducible assumption) | (refine hDb _ ?_; with_reducible assumption) | (refine hDc _ ?_; with_reducible assumption) | (refine hDd _ ?_; with_reducible assumption) | (refine FW.fs ?_ (by omega) _; with_reducible assumption) | (refine WS.fs ?_; with_reducible assumption) | (refine FW.fs ?_ (by omega) _; assumption) | omega | assumption)); rintro e w1 ⟨rfl, o1, n1, rfl⟩)))
    go_loopw [14] (fun c wr => ∃ (i : Nat) (cs : Array Value) (o : Array Obj) (n : Nat), (i : Int) ≤ x.n ∧ c = .int .i64 i ∧ wr = ext (upd W a cs) o n ∧ CF cs (writes x.ws x.place y.num i)) (fun c _ => (x.n - intOf c).toNat)
    case atStart =>
      obtain ⟨cs, h1, h2⟩ := hFW.self
      exact ⟨0, cs, _, _, hn0.1, rfl, by rw [h1], h2⟩
    case round =>
      obtain ⟨i, cs, o2, n2, hi, rfl, hwr, hcs⟩ := hrel
      subst hwr
      by_cases hlt : (i : Int) < x.n
      · have hp := VecM.right_place Hx.out hlt
        have hq := VecM.right_place Hy.out (i := i) (by have := Hn.out; omega)
        have h2 : IntKind.i64.wrap (i * x.inc) = i * x.inc := IntWalk.i64_in _ (by omega)
        have h3 : IntKind.i64.wrap (x.off + i * x.inc) = x.off + i * x.inc := IntWalk.i64_in _ (by omega)
        have h4 : IntKind.i64.wrap (i * y.inc) = i * y.inc := IntWalk.i64_in _ (by omega)
        have h5 : IntKind.i64.wrap (y.off + i * y.inc) = y.off + i * y.inc := IntWalk.i64_in _ (by omega)
        have hlen : (writes x.ws x.place y.num i).length = x.ws.length := by simp
        have hfw : ∀ o n, FW (ext (upd W a cs) o n) a (writes x.ws x.place y.num i) := fun o n => hFW.mk' hcs o n
        obtain ⟨r0, hr0, _⟩ := (hfw o2 n2).get (i := x.place i) (by rw [hlen]; unfold VecM.place; omega)
        have hr1 := (cell_ext (by simpa using gl)).symm.trans hr0
        have hs : ∃ s0, (upd W a cs).cell? ⟨b, y.place i, none⟩ = some (.float .f64 s0) ∧ IsF s0 (y.num i) ∧ b < W.heap.size := by
          by_cases e : a = b
          · subst e
            obtain ⟨s0, hs0, hg0⟩ := (hfw o2 n2).get (i := y.place i) (by rw [hlen, ← Hab.out rfl]; unfold VecM.place; omega)
            refine ⟨s0, (cell_ext (by simpa using gl)).symm.trans hs0, ?_, gl⟩
            rw [writes_other i (fun t ht => meetsB_no (by have := Hm.out; simpa using this) Hx.out Hy.out (by omega) (by have := Hn.out; omega))] at hg0
            unfold VecM.num; rw [Hab.out rfl]; exact hg0
          · obtain ⟨blk, o, h1, h2, hc⟩ := hBW.at.2 (by omega)
            cases h1
            obtain ⟨s0, hs0, hg0⟩ := hc (y.place i) (by unfold VecM.place; omega)
            rw [Nat.zero_add] at hs0
            exact ⟨s0, by rw [cell_upd_ne (fun e' => e e'.symm)]; exact hs0, hg0, h2⟩
        obtain ⟨s0, hs1, hg0, hlb⟩ := hs
        unfold VecM.place at hr1 hs1
        clear hr0
        go_wp2
        refine wp_region_R (Grew (upd W a cs)) [21] [(3,0), (0,1), (3,2), (0,3), (3,4), (3,5), (0,6), (3,7), (3,8), (3,9), (0,10), (3,11), (0,12), (3,13), (3,14), (0,15), (3,16), (3,17), (3,18), (0,19), (3,20), (2,21)] (by kernel_rfl) (by kernel_rfl) (fun _ _ _ _ h _ => h) (by first | exact ⟨_, _, ext_drew⟩ | exact ⟨_, _, drew_ext0⟩) ?_
        go_wp2_with (first | ((with_reducible refine wpR_id ?_); first | (refine wpR_take (v := ?_) rfl rfl ?_ ?_; rotate_left; (focus (rintro w' ⟨o', n', rfl⟩; go_simp; try with_reducible rfl)); simp only [Act.put, List.setIfInBounds_toArray, List.set_cons_zero, List.set_cons_succ]) | (refine wpR_pure (v := ?_) rfl rfl ?_ ?_; rotate_left; (focus (intro w'; go_simp; try with_reducible rfl)); simp only [Act.put, List.setIfInBounds_toArray, List.set_cons_zero, List.set_cons_succ]) | (refine wpR_takeG (v := ?_) rfl rfl rfl rfl rfl ?_ ?_; rotate_left; (focus (rintro w' ⟨o', n', rfl⟩; go_simp; try with_reducible rfl)); simp only [Act.put, List.setIfInBounds_toArray, List.set_cons_zero, List.set_cons_succ]) | (refine wpR_skip rfl rfl rfl rfl rfl rfl ?_; simp only [Act.put, List.setIfInBounds_toArray, List.set_cons_zero, List.set_cons_succ]) | (refine wpR_skipU rfl rfl rfl rfl rfl ?_; simp only [Act.put, List.setIfInBounds_toArray, List.set_cons_zero, List.set_cons_succ]) | (refine wpR_do rfl rfl (fun K hK => ?_)) | (refine wpR_doG rfl rfl rfl rfl rfl (fun K hK => ?_)) | (refine wpR_last rfl rfl (fun K hK => ?_)) | (refine wpR_nil ?_)) | ((with_reducible refine wpR_go ?_ ?_); (focus exact ⟨_, _, rfl⟩)) | ((with_reducible refine upon_id ?_); refine upon_fop rfl (by assumption) (by assumption) ?_; intro rr nn hr))
        go_roundw
        case rel =>
          refine ⟨i + 1, _, _, _, by omega, by go_num, rfl, ?_⟩
          unfold writes
          exact hcs.set (i := x.place i) hg0
        case measure => simp [intOf]; omega
      · have e : x.n.toNat = i := by omega
        have hcs' : CF cs (VecMwrite x y.list) := by rw [← copy_own Hn.out.symm, e]; exact hcs
        go_wp2
        go_ret
        exact ⟨ret_int Hp.out.symm, by rw [hL.out]; exact Wrote.grew_l g0 (by omega) ⟨cs, _, _, rfl, hcs'⟩⟩
  · have hL := hid (show copyL x y (decide (a = b)) = x.ws by unfold copyL; rw [if_neg hp])
    have hpc : ∀ w', Plain w' a → Plain w' b → FS w' (.slice (some ⟨a, 0, none⟩) x.ws.length ca) x.ws → FS w' (.slice (some ⟨b, 0, none⟩) y.ws.length cb) y.ws → Calls Try.prog 63 #[.agg #[.slice (some ⟨a, 0, none⟩) x.ws.length ca, .int .i64 x.off, .int .i64 x.n, .int .i64 x.inc], .agg #[.slice (some ⟨b, 0, none⟩) y.ws.length cb, .int .i64 y.off, .int .i64 y.n, .int .i64 y.inc]] w'
        (fun e w2 => e = .returned (.int .i64 (pairE x y (decide (a = b)))) ∧ ∃ o n, w2 = ext w' o n) := fun w' p1 p2 h1 h2 => pair_any x y a b ca cb w' h1 h2 p1 p2 hwx hwy hlx hly
    obtain ⟨E, hE⟩ : ∃ E, E = pairE x y (decide (a = b)) := ⟨_, rfl⟩
    rw [← hE] at hp hpc ⊢
    have d1 : decide (E = 0) = false := by simpa using hp
    have d2 : (E == 0) = false := by simpa using hp
    clear hE hwx hwy hab
    go_enter Try.func65, Try.ntmps65
    refine seq_stop ?_
    go_wp2
    refine stop_go (fun W hW => ?_)
    have s1 : w.heap.size < W.heap.size := by rw [hW]; simp only [World.size_alloc]; omega
    have b1 : ∀ i, W.cell? ⟨w.heap.size, i, none⟩ = (#[.slice (some ⟨a, 0, none⟩) x.ws.length ca, .int .i64 x.off, .int .i64 x.n, .int .i64 x.inc] : Array Value)[i]? := by intro i; rw [hW]; go_simp
    have s2 : w.heap.size + 1 < W.heap.size := by rw [hW]; simp only [World.size_alloc]; omega
    have b2 : ∀ i, W.cell? ⟨w.heap.size + 1, i, none⟩ = (#[.slice (some ⟨b, 0, none⟩) y.ws.length cb, .int .i64 y.off, .int .i64 y.n, .int .i64 y.inc] : Array Value)[i]? := by intro i; rw [hW]; go_simp
    have g0 : Grew w W := by rw [hW]; exact ((Grew.refl _).alloc _).alloc _
    clear hW
    have hAW := hA.grew g0
    have hBW := hB.grew g0
    go_wp2_with (first | (go_at_call 63; ((with_reducible refine (hpc _ ((FW.plain hF).grew (by (show Grew _ _; repeat (first | (with_reducible exact Grew.refl _) | (with_reducible assumption) | (with_reducible refine Grew.ext ?_ _ _) | (with_reducible refine Grew.alloc ?_ _) | ((with_reducible refine Grew.setCell ?_ ?_ _); rotate_left; (focus (dsimp only; first | omega | (simp only [size_ext, World.size_alloc, Array.size_append]; omega)))) | (with_reducible refine Grew.drewN ?_ _) | (with_reducible refine Grew.drew ?_))))) (hPb.grew (by (show Grew _ _; repeat (first | (with_reducible exact Grew.refl _) | (with_reducible assumption) | (with_reducible refine Grew.ext ?_ _ _) | (with_reducible refine Grew.alloc ?_ _) | ((with_reducible refine Grew.setCell ?_ ?_ _); rotate_left; (focus (dsimp only; first | omega | (simp only [size_ext, World.size_alloc, Array.size_append]; omega)))) | (with_reducible refine Grew.drewN ?_ _) | (with_reducible refine Grew.drew ?_))))) ?_ ?_).mono ?_); (focus (first | (with_reducible assumption) | (with_reducible refine FS.ext ?_ _ _; with_reducible assumption) | (with_reducible refine IS.ext ?_ _ _; with_reducible assumption) | (refine hDu _ ?_; with_reducible assumption) | (refine hOu _ ?_; with_reducible assumption) | (refine hDa _ ?_; with_reducible assumption) | (refine hDb _ ?_; with_reducible assumption) | (refine hDc _ ?_; with_reducible assumption) | (refine hDd _ ?_; with_reducible assumption) | (refine FW.fs ?_ (by omega) _; with_reducible assumption) | (refine WS.fs ?_; with_reducible assumption) | (refine FW.fs ?_ (by omega) _; assumption) | omega | assumption)); (focus (first | (with_reducible assumption) | (with_reducible refine FS.ext ?_ _ _; with_reducible assumption) | (with_reducible refine IS.ext ?_ _ _; with_reducible assumption) | (refine hDu _ ?_; with_reducible assumption) | (refine hOu _ ?_; with_reducible assumption) | (refine hDa _ ?_; with_reducible assumption) | (refine hDb _ ?_; with_reducible assumption) | (refine hDc _ ?_; with_reducible assumption) | (refine hDd _ ?_; with_reducible assumption) | (refine FW.fs ?_ (by omega) _; with_reducible assumption) | (refine WS.fs ?_; with_reducible assumption) | (refine FW.fs ?_ (by omega) _; assumption) | omega | assumption)); rintro e w1 ⟨rfl, o1, n1, rfl⟩)))
    go_ret
    exact ⟨rfl, by rw [hL.out]; exact Wrote.grew_r (Wrote.refl hF) (by (show Grew _ _; repeat (first | (with_reducible exact Grew.refl _) | (with_reducible assumption) | (with_reducible refine Grew.ext ?_ _ _) | (with_reducible refine Grew.alloc ?_ _) | ((with_reducible refine Grew.setCell ?_ ?_ _); rotate_left; (focus (dsimp only; first | omega | (simp only [size_ext, World.size_alloc, Array.size_append]; omega)))) | (with_reducible refine Grew.drewN ?_ _) | (with_reducible refine Grew.drew ?_))))⟩
set_option maxRecDepth 100000 in
set_option maxHeartbeats 2000000 in
/-- move.swap, of vectors in two lists. -/
theorem swap2_any (x y : VecM) (a b ca cb : Nat) (w : World) (hF : FW w a x.ws) (hH : FW w b y.ws) (hab : a ≠ b) (hx : x.right = true) (hy : y.right = true) (hn : y.n = x.n) (hlx : x.ws.length ≤ 1000000) (hly : y.ws.length ≤ 1000000) :
   Calls Try.prog 131 #[.agg #[.slice (some ⟨a, 0, none⟩) x.ws.length ca, .int .i64 x.off, .int .i64 x.n, .int .i64 x.inc], .agg #[.slice (some ⟨b, 0, none⟩) y.ws.length cb, .int .i64 y.off, .int .i64 x.n, .int .i64 y.inc]] w
     (fun e w' => e = .returned (.tuple #[]) ∧ But w [a, b] w' ∧ FW w' a (VecMwrite x y.list) ∧ FW w' b (VecMwrite y x.list)) := by
  have hn0 := VecM.right_n hx
  have hm0 := VecM.right_n hy
  have hnl := VecM.right_nle hx hlx
  have hltg := hF.lt
  have hlth := hH.lt
  have hba := hab.symm
  have Hx := hid hx
  have Hy := hid hy
  have Hn := hid hn
  clear hx hy hn
  go_enter Try.func131, Try.ntmps131
  refine seq_stop ?_
  go_wp2
  refine stop_go (fun W hW => ?_)
  have s1 : w.heap.size < W.heap.size := by rw [hW]; simp only [World.size_alloc]; omega
  have b1 : ∀ i, W.cell? ⟨w.heap.size, i, none⟩ = (#[.slice (some ⟨a, 0, none⟩) x.ws.length ca, .int .i64 x.off, .int .i64 x.n, .int .i64 x.inc] : Array Value)[i]? := by intro i; rw [hW]; go_simp
  have s2 : w.heap.size + 1 < W.heap.size := by rw [hW]; simp only [World.size_alloc]; omega
  have b2 : ∀ i, W.cell? ⟨w.heap.size + 1, i, none⟩ = (#[.slice (some ⟨b, 0, none⟩) y.ws.length cb, .int .i64 y.off, .int .i64 x.n, .int .i64 y.inc] : Array Value)[i]? := by intro i; rw [hW]; go_simp
  have g0 : Grew w W := by rw [hW]; exact ((Grew.refl _).alloc _).alloc _
  clear hW
  have hFW := hF.grew g0
  have hHW := hH.grew g0
  have c1 : ∀ w', But W [a, b] w' → ∀ i, w'.cell? ⟨w.heap.size, i, none⟩ = (#[.slice (some ⟨a, 0, none⟩) x.ws.length ca, .int .i64 x.off, .int .i64 x.n, .int .i64 x.inc] : Array Value)[i]? := fun w' hb i => (hb.cell s1 (by simp; omega)).trans (b1 i)
  have c2 : ∀ w', But W [a, b] w' → ∀ i, w'.cell? ⟨w.heap.size + 1, i, none⟩ = (#[.slice (some ⟨b, 0, none⟩) y.ws.length cb, .int .i64 y.off, .int .i64 x.n, .int .i64 y.inc] : Array Value)[i]? := fun w' hb i => (hb.cell s2 (by simp; omega)).trans (b2 i)
  go_wp2
  clear b1 b2
  go_loopw [9] (fun c wr => ∃ (i : Nat), (i : Int) ≤ x.n ∧ c = .int .i64 i ∧ But W [a, b] wr ∧ FW wr a (writes x.ws x.place y.num i) ∧ FW wr b (writes y.ws y.place x.num i)) (fun c _ => (x.n - intOf c).toNat)
  case atStart => exact ⟨0, hn0.1, rfl, But.refl _ _, hFW, hHW⟩
  case round =>
    obtain ⟨i, hi, rfl, hB, hA1, hB1⟩ := hrel
    by_cases hlt : (i : Int) < x.n
    · have hp := VecM.right_place Hx.out hlt
      have hq := VecM.right_place Hy.out (i := i) (by have := Hn.out; omega)
      have h2 : IntKind.i64.wrap (i * x.inc) = i * x.inc := IntWalk.i64_in _ (by omega)
      have h3 : IntKind.i64.wrap (x.off + i * x.inc) = x.off + i * x.inc := IntWalk.i64_in _ (by omega)
      have h4 : IntKind.i64.wrap (i * y.inc) = i * y.inc := IntWalk.i64_in _ (by omega)
      have h5 : IntKind.i64.wrap (y.off + i * y.inc) = y.off + i * y.inc := IntWalk.i64_in _ (by omega)
      obtain ⟨r0, hr0, hf0⟩ := hA1.get (i := x.place i) (by rw [writes_length]; unfold VecM.place; omega)
      obtain ⟨s0, hs0, hg0⟩ := hB1.get (i := y.place i) (by rw [writes_length]; unfold VecM.place; omega)
      rw [writes_other i (fun t ht e => by have := VecM.place_inj Hx.out (by omega) hlt e; omega)] at hf0
      rw [writes_other i (fun t ht e => by have := VecM.place_inj Hy.out (by have := Hn.out; omega) (by have := Hn.out; omega) e; omega)] at hg0
      have hf1 : IsF r0 (x.num i) := hf0
      have hg1 : IsF s0 (y.num i) := hg0
      have hr1 := hr0
      have hs1 := hs0
      unfold VecM.place at hr1 hs1
      have t1 := c1 _ hB
      have t2 := c2 _ hB
      have z1 := hB.size
      have k1 : w.heap.size < wr.heap.size := by omega
      have k2 : w.heap.size + 1 < wr.heap.size := by omega
      have gl := hA1.lt
      have gl2 := hB1.lt
      have fz1 : ∀ i, wr.frozen? ⟨a, i, none⟩ = false := hA1.notFrozen
      have fz2 : ∀ i, wr.frozen? ⟨b, i, none⟩ = false := hB1.notFrozen
      go_wp2
      refine wp_region_R (Grew wr) [] [(0,0), (0,1), (0,2), (0,3), (0,4), (0,5), (0,6), (0,7), (0,8), (0,9), (0,10), (0,11), (0,12), (0,13), (0,14), (0,15), (0,16), (0,17), (0,18), (0,19), (0,20), (0,21)] (by kernel_rfl) (by kernel_rfl) (fun _ _ _ _ h _ => h) (by first | exact ⟨_, _, ext_drew⟩ | exact ⟨_, _, drew_ext0⟩) ?_
      go_wp2_with (first | ((with_reducible refine wpR_id ?_); first | (refine wpR_take (v := ?_) rfl rfl ?_ ?_; rotate_left; (focus (rintro w' ⟨o', n', rfl⟩; go_simp; try with_reducible rfl)); simp only [Act.put, List.setIfInBounds_toArray, List.set_cons_zero, List.set_cons_succ]) | (refine wpR_pure (v := ?_) rfl rfl ?_ ?_; rotate_left; (focus (intro w'; go_simp; try with_reducible rfl)); simp only [Act.put, List.setIfInBounds_toArray, List.set_cons_zero, List.set_cons_succ]) | (refine wpR_takeG (v := ?_) rfl rfl rfl rfl rfl ?_ ?_; rotate_left; (focus (rintro w' ⟨o', n', rfl⟩; go_simp; try with_reducible rfl)); simp only [Act.put, List.setIfInBounds_toArray, List.set_cons_zero, List.set_cons_succ]) | (refine wpR_skip rfl rfl rfl rfl rfl rfl ?_; simp only [Act.put, List.setIfInBounds_toArray, List.set_cons_zero, List.set_cons_succ]) | (refine wpR_skipU rfl rfl rfl rfl rfl ?_; simp only [Act.put, List.setIfInBounds_toArray, List.set_cons_zero, List.set_cons_succ]) | (refine wpR_do rfl rfl (fun K hK => ?_)) | (refine wpR_doG rfl rfl rfl rfl rfl (fun K hK => ?_)) | (refine wpR_last rfl rfl (fun K hK => ?_)) | (refine wpR_nil ?_)) | ((with_reducible refine wpR_go ?_ ?_); (focus exact ⟨_, _, rfl⟩)) | ((with_reducible refine upon_id ?_); refine upon_fop rfl (by assumption) (by assumption) ?_; intro rr nn hr))
      refine wp_region_R (Grew wr) [9, 11] [(3,0), (3,1), (3,2), (3,3), (0,4), (3,5), (3,6), (0,7), (3,8), (2,9), (3,10), (2,11)] (by kernel_rfl) (by kernel_rfl) (fun _ _ _ _ h _ => h) (by first | exact ⟨_, _, ext_drew⟩ | exact ⟨_, _, drew_ext0⟩) ?_
      go_wp2_with (first | ((with_reducible refine wpR_id ?_); first | (refine wpR_take (v := ?_) rfl rfl ?_ ?_; rotate_left; (focus (rintro w' ⟨o', n', rfl⟩; go_simp; try with_reducible rfl)); simp only [Act.put, List.setIfInBounds_toArray, List.set_cons_zero, List.set_cons_succ]) | (refine wpR_pure (v := ?_) rfl rfl ?_ ?_; rotate_left; (focus (intro w'; go_simp; try with_reducible rfl)); simp only [Act.put, List.setIfInBounds_toArray, List.set_cons_zero, List.set_cons_succ]) | (refine wpR_takeG (v := ?_) rfl rfl rfl rfl rfl ?_ ?_; rotate_left; (focus (rintro w' ⟨o', n', rfl⟩; go_simp; try with_reducible rfl)); simp only [Act.put, List.setIfInBounds_toArray, List.set_cons_zero, List.set_cons_succ]) | (refine wpR_skip rfl rfl rfl rfl rfl rfl ?_; simp only [Act.put, List.setIfInBounds_toArray, List.set_cons_zero, List.set_cons_succ]) | (refine wpR_skipU rfl rfl rfl rfl rfl ?_; simp only [Act.put, List.setIfInBounds_toArray, List.set_cons_zero, List.set_cons_succ]) | (refine wpR_do rfl rfl (fun K hK => ?_)) | (refine wpR_doG rfl rfl rfl rfl rfl (fun K hK => ?_)) | (refine wpR_last rfl rfl (fun K hK => ?_)) | (refine wpR_nil ?_)) | ((with_reducible refine wpR_go ?_ ?_); (focus exact ⟨_, _, rfl⟩)) | ((with_reducible refine upon_id ?_); refine upon_fop rfl (by assumption) (by assumption) ?_; intro rr nn hr))
      go_roundw
      case rel =>
        have e1 : FW (wr.setCell ⟨a, (x.off + i * x.inc).toNat, none⟩ (.float .f64 s0)) a (writes x.ws x.place y.num (i + 1)) := hA1.setc hg1
        have e2 : FW (wr.setCell ⟨a, (x.off + i * x.inc).toNat, none⟩ (.float .f64 s0)) b (writes y.ws y.place x.num i) := hB1.setCell_ne hab _
        have e3 := hB.setc (k := (x.off + i * x.inc).toNat) (r := s0) hA1 (by simp)
        have e4 : FW ((wr.setCell ⟨a, (x.off + i * x.inc).toNat, none⟩ (.float .f64 s0)).setCell ⟨b, (y.off + i * y.inc).toNat, none⟩ (.float .f64 r0)) b (writes y.ws y.place x.num (i + 1)) := e2.setc hf1
        have e5 := e3.setc (k := (y.off + i * y.inc).toNat) (r := r0) e2 (by simp)
        have gd : ∀ v : World, Grew v v.drew.drew := fun v => ((Grew.refl v).drew).drew
        exact ⟨i + 1, by omega, by go_num, e5.grew (gd _), (FW.setCell_ne e1 hba _).grew (gd _), e4.grew (gd _)⟩
      case measure => simp [intOf]; omega
    · have e : x.n.toNat = i := by omega
      have f1 : FW wr a (VecMwrite x y.list) := by rw [← copy_own Hn.out, e]; exact hA1
      have f2 : FW wr b (VecMwrite y x.list) := by rw [← copy_own Hn.out.symm, show y.n.toNat = i by rw [Hn.out]; exact e]; exact hB1
      have f3 : But w [a, b] wr := ⟨hB.os.trans g0.below.os, hB.tape.trans g0.below.tape, hB.output.trans g0.below.output, Nat.le_trans g0.below.size hB.size, fun k hk hG => (hB.block k (Nat.lt_of_lt_of_le hk g0.below.size) hG).trans (g0.below.block k hk)⟩
      go_wp2
      go_end0
      exact ⟨rfl, f3, f1, f2⟩
end Go.Proofs.Ytcmggfpcbijcjaa
