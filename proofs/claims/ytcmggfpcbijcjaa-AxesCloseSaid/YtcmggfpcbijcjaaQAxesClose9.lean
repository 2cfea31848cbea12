/-
  Texts laid one behind the other (a claim has at most 60 files): Vec4, Vec5, Aw06, OwnI, FltVal2, FltErr, Dig, Dint.
-/
import Derived.Maps.AppendAt
import Derived.Test.YtcmggfpcbijcjaaQAxesClose1
import Derived.Test.YtcmggfpcbijcjaaQAxesClose2
import Derived.Test.YtcmggfpcbijcjaaQAxesClose3
import Derived.Test.YtcmggfpcbijcjaaQAxesClose4
import Derived.Test.YtcmggfpcbijcjaaQAxesClose5
import Derived.Test.YtcmggfpcbijcjaaQAxesClose6
import Derived.Test.YtcmggfpcbijcjaaQAxesClose7
import Derived.Test.YtcmggfpcbijcjaaQAxesClose8
section
/-
  Contracts: move.Copy, move.Swap.
-/
set_option linter.unusedSimpArgs false
set_option linter.unusedVariables false
open Go Go.RowKit Sedge
namespace Go.Proofs.Ytcmggfpcbijcjaa
theorem pairE_ok {x y : VecM} {one : Bool} (h : pairE x y one = 0) : x.right = true ∧ y.right = true ∧ x.n = y.n ∧ (one && meetsB x y) = false := by
  unfold pairE at h
  split at h
  · rename_i h1
    split at h
    · rename_i h2
      split at h
      · cases h
      · rename_i h3
        refine ⟨h1.1, h1.2, h2, ?_⟩
        rw [Bool.eq_false_iff]; intro h4; exact h3 (by simpa using h4)
    · cases h
  · cases h
def copyL (x y : VecM) (one : Bool) : List Nat := if pairE x y one = 0 then VecMwrite x y.list else x.ws
set_option maxRecDepth 100000 in
set_option maxHeartbeats 1000000 in
/-- move.Copy. -/
theorem copy_any (x y : VecM) (a b ca cb : Nat) (w : World) (hF : FW w a x.ws) (hPb : Plain w b) (hB : FS w (.slice (some ⟨b, 0, none⟩) y.ws.length cb) y.ws) (hab : a = b → y.ws = x.ws) (hwx : x.wf) (hwy : y.wf) (hlx : x.ws.length ≤ 1000000) (hly : y.ws.length ≤ 1000000) :
   Calls Try.prog 65 #[.agg #[.slice (some ⟨a, 0, none⟩) x.ws.length ca, .int .i64 x.off, .int .i64 x.n, .int .i64 x.inc], .agg #[.slice (some ⟨b, 0, none⟩) y.ws.length cb, .int .i64 y.off, .int .i64 y.n, .int .i64 y.inc]] w
     (fun e w' => e = .returned (.int .i64 (pairE x y (decide (a = b)))) ∧ Wrote w w' a (copyL x y (decide (a = b)))) := by
  have hA := hF.fs (by omega) ca
  have hltg := hF.lt
  by_cases hp : pairE x y (decide (a = b)) = 0
  · obtain ⟨hx, hy, hn, hm⟩ := pairE_ok hp
    have hL := hid (show copyL x y (decide (a = b)) = VecMwrite x y.list by unfold copyL; rw [if_pos hp])
    have hpc : ∀ w', Plain w' a → Plain w' b → FS w' (.slice (some ⟨a, 0, none⟩) x.ws.length ca) x.ws → FS w' (.slice (some ⟨b, 0, none⟩) y.ws.length cb) y.ws → Calls Try.prog 63 #[.agg #[.slice (some ⟨a, 0, none⟩) x.ws.length ca, .int .i64 x.off, .int .i64 x.n, .int .i64 x.inc], .agg #[.slice (some ⟨b, 0, none⟩) y.ws.length cb, .int .i64 y.off, .int .i64 y.n, .int .i64 y.inc]] w'
        (fun e w2 => e = .returned (.int .i64 0) ∧ ∃ o n, w2 = ext w' o n) := fun w' p1 p2 h1 h2 => by
      have := pair_any x y a b ca cb w' h1 h2 p1 p2 hwx hwy hlx hly
      rw [hp] at this; exact this
    have hn0 := VecM.right_n hx
    have hm0 := VecM.right_n hy
    have hnl := VecM.right_nle hx hlx
    have Hx := hid hx
    have Hy := hid hy
    have Hn := hid hn
    have Hm := hid hm
    have Hp := hid hp
    have Hab := hid hab
    clear hx hy hn hm hp hwx hwy hab
    go_enter Try.func65, Try.ntmps65
    refine seq_stop ?_
    go_wp2
    refine stop_go (fun W hW => ?_)
    have s1 : w.heap.size < W.heap.size := by rw [hW]; simp only [World.size_alloc]; omega
    have b1 : ∀ i, W.cell? ⟨w.heap.size, i, none⟩ = (#[.slice (some ⟨a, 0, none⟩) x.ws.length ca, .int .i64 x.off, .int .i64 x.n, .int .i64 x.inc] : Array Value)[i]? := by intro i; rw [hW]; go_simp
    have s2 : w.heap.size + 1 < W.heap.size := by rw [hW]; simp only [World.size_alloc]; omega
    have b2 : ∀ i, W.cell? ⟨w.heap.size + 1, i, none⟩ = (#[.slice (some ⟨b, 0, none⟩) y.ws.length cb, .int .i64 y.off, .int .i64 y.n, .int .i64 y.inc] : Array Value)[i]? := by intro i; rw [hW]; go_simp
    have g0 : Grew w W := by rw [hW]; exact ((Grew.refl _).alloc _).alloc _
    clear hW
    have hAW := hA.grew g0
    have hBW := hB.grew g0
    have hFW := hF.grew g0
    have gl := hFW.lt
    have q1 : w.heap.size ≠ a := by omega
    have q2 : w.heap.size + 1 ≠ a := by omega
    have fz : ∀ i, W.frozen? ⟨a, i, none⟩ = false := hFW.notFrozen
    go_wp2_with (first | (go_at_call 63; ((with_reducible refine (hpc _ ((FW.plain hF).grew (by (show Grew _ _; repeat (first | (with_reducible exact Grew.refl _) | (with_reducible assumption) | (with_reducible refine Grew.ext ?_ _ _) | (with_reducible refine Grew.alloc ?_ _) | ((with_reducible refine Grew.setCell ?_ ?_ _); rotate_left; (focus (dsimp only; first | omega | (simp only [size_ext, World.size_alloc, Array.size_append]; omega)))) | (with_reducible refine Grew.drewN ?_ _) | (with_reducible refine Grew.drew ?_))))) (hPb.grew (by (show Grew _ _; repeat (first | (with_reducible exact Grew.refl _) | (with_reducible assumption) | (with_reducible refine Grew.ext ?_ _ _) | (with_reducible refine Grew.alloc ?_ _) | ((with_reducible refine Grew.setCell ?_ ?_ _); rotate_left; (focus (dsimp only; first | omega | (simp only [size_ext, World.size_alloc, Array.size_append]; omega)))) | (with_reducible refine Grew.drewN ?_ _) | (with_reducible refine Grew.drew ?_))))) ?_ ?_).mono ?_); (focus (first | (with_reducible assumption) | (with_reducible refine FS.ext ?_ _ _; with_reducible assumption) | (with_reducible refine IS.ext ?_ _ _; with_reducible assumption) | (refine hDu _ ?_; with_reducible assumption) | (refine hOu _ ?_; with_reducible assumption) | (refine hDa _ ?_; with_reducible assumption) | (refine hDb _ ?_; with_reducible assumption) | (refine hDc _ ?_; with_reducible assumption) | (refine hDd _ ?_; with_reducible assumption) | (refine FW.fs ?_ (by omega) _; with_reducible assumption) | (refine WS.fs ?_; with_reducible assumption) | (refine FW.fs ?_ (by omega) _; assumption) | omega | assumption)); (focus (first | (with_reducible assumption) | (with_reducible refine FS.ext ?_ _ _; with_reducible assumption) | (with_reducible refine IS.ext ?_ _ _; with_reducible assumption) | (refine hDu _ ?_; with_reducible assumption) | (refine hOu _ ?_; with_reducible assumption) | (refine hDa _ ?_; with_reducible assumption) | (refine hDb _ ?_; with_reducible assumption) | (refine hDc _ ?_; with_reducible assumption) | (refine hDd _ ?_; with_reducible assumption) | (refine FW.fs ?_ (by omega) _; with_reducible assumption) | (refine WS.fs ?_; with_reducible assumption) | (refine FW.fs ?_ (by omega) _; assumption) | omega | assumption)); rintro e w1 ⟨rfl, o1, n1, rfl⟩)))
    go_loopw [14] (fun c wr => ∃ (i : Nat) (cs : Array Value) (o : Array Obj) (n : Nat), (i : Int) ≤ x.n ∧ c = .int .i64 i ∧ wr = ext (upd W a cs) o n ∧ CF cs (writes x.ws x.place y.num i)) (fun c _ => (x.n - intOf c).toNat)
    case atStart =>
      obtain ⟨cs, h1, h2⟩ := hFW.self
      exact ⟨0, cs, _, _, hn0.1, rfl, by rw [h1], h2⟩
    case round =>
      obtain ⟨i, cs, o2, n2, hi, rfl, hwr, hcs⟩ := hrel
      subst hwr
      by_cases hlt : (i : Int) < x.n
      · have hp := VecM.right_place Hx.out hlt
        have hq := VecM.right_place Hy.out (i := i) (by have := Hn.out; omega)
        have h2 : IntKind.i64.wrap (i * x.inc) = i * x.inc := IntWalk.i64_in _ (by omega)
        have h3 : IntKind.i64.wrap (x.off + i * x.inc) = x.off + i * x.inc := IntWalk.i64_in _ (by omega)
        have h4 : IntKind.i64.wrap (i * y.inc) = i * y.inc := IntWalk.i64_in _ (by omega)
        have h5 : IntKind.i64.wrap (y.off + i * y.inc) = y.off + i * y.inc := IntWalk.i64_in _ (by omega)
        have hlen : (writes x.ws x.place y.num i).length = x.ws.length := by simp
        have hfw : ∀ o n, FW (ext (upd W a cs) o n) a (writes x.ws x.place y.num i) := fun o n => hFW.mk' hcs o n
        obtain ⟨r0, hr0, _⟩ := (hfw o2 n2).get (i := x.place i) (by rw [hlen]; unfold VecM.place; omega)
        have hr1 := (cell_ext (by simpa using gl)).symm.trans hr0
        have hs : ∃ s0, (upd W a cs).cell? ⟨b, y.place i, none⟩ = some (.float .f64 s0) ∧ IsF s0 (y.num i) ∧ b < W.heap.size := by
          by_cases e : a = b
          · subst e
            obtain ⟨s0, hs0, hg0⟩ := (hfw o2 n2).get (i := y.place i) (by rw [hlen, ← Hab.out rfl]; unfold VecM.place; omega)
            refine ⟨s0, (cell_ext (by simpa using gl)).symm.trans hs0, ?_, gl⟩
            rw [writes_other i (fun t ht => meetsB_no (by have := Hm.out; simpa using this) Hx.out Hy.out (by omega) (by have := Hn.out; omega))] at hg0
            unfold VecM.num; rw [Hab.out rfl]; exact hg0
          · obtain ⟨blk, o, h1, h2, hc⟩ := hBW.at.2 (by omega)
            cases h1
            obtain ⟨s0, hs0, hg0⟩ := hc (y.place i) (by unfold VecM.place; omega)
            rw [Nat.zero_add] at hs0
            exact ⟨s0, by rw [cell_upd_ne (fun e' => e e'.symm)]; exact hs0, hg0, h2⟩
        obtain ⟨s0, hs1, hg0, hlb⟩ := hs
        unfold VecM.place at hr1 hs1
        clear hr0
        go_wp2
        refine wp_region_R (Grew (upd W a cs)) [21] [(3,0), (0,1), (3,2), (0,3), (3,4), (3,5), (0,6), (3,7), (3,8), (3,9), (0,10), (3,11), (0,12), (3,13), (3,14), (0,15), (3,16), (3,17), (3,18), (0,19), (3,20), (2,21)] (by kernel_rfl) (by kernel_rfl) (fun _ _ _ _ h _ => h) (by first | exact ⟨_, _, ext_drew⟩ | exact ⟨_, _, drew_ext0⟩ | (show Grew _ _; repeat (first | (with_reducible exact Grew.refl _) | (with_reducible assumption) | (with_reducible refine Grew.ext ?_ _ _) | (with_reducible refine Grew.alloc ?_ _) | ((with_reducible refine Grew.setCell ?_ ?_ _); rotate_left; (focus (dsimp only; first | omega | (simp only [size_ext, World.size_alloc, Array.size_append]; omega)))) | (with_reducible refine Grew.drewN ?_ _) | (with_reducible refine Grew.drew ?_)))) ?_
        go_wp2_with (first | ((with_reducible refine wpR_id ?_); first | (refine wpR_take (v := ?_) rfl rfl ?_ ?_; rotate_left; (focus (rintro w' ⟨o', n', rfl⟩; go_simp; try with_reducible rfl)); simp only [Act.put, List.setIfInBounds_toArray, List.set_cons_zero, List.set_cons_succ]) | (refine wpR_pure (v := ?_) rfl rfl ?_ ?_; rotate_left; (focus (intro w'; go_simp; try with_reducible rfl)); simp only [Act.put, List.setIfInBounds_toArray, List.set_cons_zero, List.set_cons_succ]) | (refine wpR_takeG (v := ?_) rfl rfl rfl rfl rfl ?_ ?_; rotate_left; (focus (rintro w' ⟨o', n', rfl⟩; go_simp; try with_reducible rfl)); simp only [Act.put, List.setIfInBounds_toArray, List.set_cons_zero, List.set_cons_succ]) | (refine wpR_skip rfl rfl rfl rfl rfl rfl ?_; simp only [Act.put, List.setIfInBounds_toArray, List.set_cons_zero, List.set_cons_succ]) | (refine wpR_skipU rfl rfl rfl rfl rfl ?_; simp only [Act.put, List.setIfInBounds_toArray, List.set_cons_zero, List.set_cons_succ]) | (refine wpR_do rfl rfl (fun K hK => ?_)) | (refine wpR_doG rfl rfl rfl rfl rfl (fun K hK => ?_)) | (refine wpR_last rfl rfl (fun K hK => ?_)) | (refine wpR_nil ?_)) | ((with_reducible refine wpR_go ?_ ?_); (focus exact ⟨_, _, rfl⟩)) | ((with_reducible refine upon_id ?_); refine upon_fop rfl (by assumption) (by assumption) ?_; intro rr nn hr))
        go_roundw
        case rel =>
          refine ⟨i + 1, _, _, _, by omega, by go_num, rfl, ?_⟩
          unfold writes
          exact hcs.set (i := x.place i) hg0
        case measure => simp [intOf]; omega
      · have e : x.n.toNat = i := by omega
        have hcs' : CF cs (VecMwrite x y.list) := by rw [← copy_own Hn.out.symm, e]; exact hcs
        go_wp2
        go_ret
        exact ⟨ret_int Hp.out.symm, by rw [hL.out]; exact Wrote.grew_l g0 (by omega) ⟨cs, _, _, rfl, hcs'⟩⟩
  · have hL := hid (show copyL x y (decide (a = b)) = x.ws by unfold copyL; rw [if_neg hp])
    have hpc : ∀ w', Plain w' a → Plain w' b → FS w' (.slice (some ⟨a, 0, none⟩) x.ws.length ca) x.ws → FS w' (.slice (some ⟨b, 0, none⟩) y.ws.length cb) y.ws → Calls Try.prog 63 #[.agg #[.slice (some ⟨a, 0, none⟩) x.ws.length ca, .int .i64 x.off, .int .i64 x.n, .int .i64 x.inc], .agg #[.slice (some ⟨b, 0, none⟩) y.ws.length cb, .int .i64 y.off, .int .i64 y.n, .int .i64 y.inc]] w'
        (fun e w2 => e = .returned (.int .i64 (pairE x y (decide (a = b)))) ∧ ∃ o n, w2 = ext w' o n) := fun w' p1 p2 h1 h2 => pair_any x y a b ca cb w' h1 h2 p1 p2 hwx hwy hlx hly
    obtain ⟨E, hE⟩ : ∃ E, E = pairE x y (decide (a = b)) := ⟨_, rfl⟩
    rw [← hE] at hp hpc ⊢
    have d1 : decide (E = 0) = false := by simpa using hp
    have d2 : (E == 0) = false := by simpa using hp
    clear hE hwx hwy hab
    go_enter Try.func65, Try.ntmps65
    refine seq_stop ?_
    go_wp2
    refine stop_go (fun W hW => ?_)
    have s1 : w.heap.size < W.heap.size := by rw [hW]; simp only [World.size_alloc]; omega
    have b1 : ∀ i, W.cell? ⟨w.heap.size, i, none⟩ = (#[.slice (some ⟨a, 0, none⟩) x.ws.length ca, .int .i64 x.off, .int .i64 x.n, .int .i64 x.inc] : Array Value)[i]? := by intro i; rw [hW]; go_simp
    have s2 : w.heap.size + 1 < W.heap.size := by rw [hW]; simp only [World.size_alloc]; omega
    have b2 : ∀ i, W.cell? ⟨w.heap.size + 1, i, none⟩ = (#[.slice (some ⟨b, 0, none⟩) y.ws.length cb, .int .i64 y.off, .int .i64 y.n, .int .i64 y.inc] : Array Value)[i]? := by intro i; rw [hW]; go_simp
    have g0 : Grew w W := by rw [hW]; exact ((Grew.refl _).alloc _).alloc _
    clear hW
    have hAW := hA.grew g0
    have hBW := hB.grew g0
    go_wp2_with (first | (go_at_call 63; ((with_reducible refine (hpc _ ((FW.plain hF).grew (by (show Grew _ _; repeat (first | (with_reducible exact Grew.refl _) | (with_reducible assumption) | (with_reducible refine Grew.ext ?_ _ _) | (with_reducible refine Grew.alloc ?_ _) | ((with_reducible refine Grew.setCell ?_ ?_ _); rotate_left; (focus (dsimp only; first | omega | (simp only [size_ext, World.size_alloc, Array.size_append]; omega)))) | (with_reducible refine Grew.drewN ?_ _) | (with_reducible refine Grew.drew ?_))))) (hPb.grew (by (show Grew _ _; repeat (first | (with_reducible exact Grew.refl _) | (with_reducible assumption) | (with_reducible refine Grew.ext ?_ _ _) | (with_reducible refine Grew.alloc ?_ _) | ((with_reducible refine Grew.setCell ?_ ?_ _); rotate_left; (focus (dsimp only; first | omega | (simp only [size_ext, World.size_alloc, Array.size_append]; omega)))) | (with_reducible refine Grew.drewN ?_ _) | (with_reducible refine Grew.drew ?_))))) ?_ ?_).mono ?_); (focus (first | (with_reducible assumption) | (with_reducible refine FS.ext ?_ _ _; with_reducible assumption) | (with_reducible refine IS.ext ?_ _ _; with_reducible assumption) | (refine hDu _ ?_; with_reducible assumption) | (refine hOu _ ?_; with_reducible assumption) | (refine hDa _ ?_; with_reducible assumption) | (refine hDb _ ?_; with_reducible assumption) | (refine hDc _ ?_; with_reducible assumption) | (refine hDd _ ?_; with_reducible assumption) | (refine FW.fs ?_ (by omega) _; with_reducible assumption) | (refine WS.fs ?_; with_reducible assumption) | (refine FW.fs ?_ (by omega) _; assumption) | omega | assumption)); (focus (first | (with_reducible assumption) | (with_reducible refine FS.ext ?_ _ _; with_reducible assumption) | (with_reducible refine IS.ext ?_ _ _; with_reducible assumption) | (refine hDu _ ?_; with_reducible assumption) | (refine hOu _ ?_; with_reducible assumption) | (refine hDa _ ?_; with_reducible assumption) | (refine hDb _ ?_; with_reducible assumption) | (refine hDc _ ?_; with_reducible assumption) | (refine hDd _ ?_; with_reducible assumption) | (refine FW.fs ?_ (by omega) _; with_reducible assumption) | (refine WS.fs ?_; with_reducible assumption) | (refine FW.fs ?_ (by omega) _; assumption) | omega | assumption)); rintro e w1 ⟨rfl, o1, n1, rfl⟩)))
    go_ret
    exact ⟨rfl, by rw [hL.out]; exact Wrote.grew_r (Wrote.refl hF) (by (show Grew _ _; repeat (first | (with_reducible exact Grew.refl _) | (with_reducible assumption) | (with_reducible refine Grew.ext ?_ _ _) | (with_reducible refine Grew.alloc ?_ _) | ((with_reducible refine Grew.setCell ?_ ?_ _); rotate_left; (focus (dsimp only; first | omega | (simp only [size_ext, World.size_alloc, Array.size_append]; omega)))) | (with_reducible refine Grew.drewN ?_ _) | (with_reducible refine Grew.drew ?_))))⟩
set_option maxRecDepth 100000 in
set_option maxHeartbeats 2000000 in
/-- move.swap, of vectors in two lists. -/
theorem swap2_any (x y : VecM) (a b ca cb : Nat) (w : World) (hF : FW w a x.ws) (hH : FW w b y.ws) (hab : a ≠ b) (hx : x.right = true) (hy : y.right = true) (hn : y.n = x.n) (hlx : x.ws.length ≤ 1000000) (hly : y.ws.length ≤ 1000000) :
   Calls Try.prog 131 #[.agg #[.slice (some ⟨a, 0, none⟩) x.ws.length ca, .int .i64 x.off, .int .i64 x.n, .int .i64 x.inc], .agg #[.slice (some ⟨b, 0, none⟩) y.ws.length cb, .int .i64 y.off, .int .i64 x.n, .int .i64 y.inc]] w
     (fun e w' => e = .returned (.tuple #[]) ∧ But w [a, b] w' ∧ FW w' a (VecMwrite x y.list) ∧ FW w' b (VecMwrite y x.list)) := by
  have hn0 := VecM.right_n hx
  have hm0 := VecM.right_n hy
  have hnl := VecM.right_nle hx hlx
  have hltg := hF.lt
  have hlth := hH.lt
  have hba := hab.symm
  have Hx := hid hx
  have Hy := hid hy
  have Hn := hid hn
  clear hx hy hn
  go_enter Try.func131, Try.ntmps131
  refine seq_stop ?_
  go_wp2
  refine stop_go (fun W hW => ?_)
  have s1 : w.heap.size < W.heap.size := by rw [hW]; simp only [World.size_alloc]; omega
  have b1 : ∀ i, W.cell? ⟨w.heap.size, i, none⟩ = (#[.slice (some ⟨a, 0, none⟩) x.ws.length ca, .int .i64 x.off, .int .i64 x.n, .int .i64 x.inc] : Array Value)[i]? := by intro i; rw [hW]; go_simp
  have s2 : w.heap.size + 1 < W.heap.size := by rw [hW]; simp only [World.size_alloc]; omega
  have b2 : ∀ i, W.cell? ⟨w.heap.size + 1, i, none⟩ = (#[.slice (some ⟨b, 0, none⟩) y.ws.length cb, .int .i64 y.off, .int .i64 x.n, .int .i64 y.inc] : Array Value)[i]? := by intro i; rw [hW]; go_simp
  have g0 : Grew w W := by rw [hW]; exact ((Grew.refl _).alloc _).alloc _
  clear hW
  have hFW := hF.grew g0
  have hHW := hH.grew g0
  have c1 : ∀ w', But W [a, b] w' → ∀ i, w'.cell? ⟨w.heap.size, i, none⟩ = (#[.slice (some ⟨a, 0, none⟩) x.ws.length ca, .int .i64 x.off, .int .i64 x.n, .int .i64 x.inc] : Array Value)[i]? := fun w' hb i => (hb.cell s1 (by simp; omega)).trans (b1 i)
  have c2 : ∀ w', But W [a, b] w' → ∀ i, w'.cell? ⟨w.heap.size + 1, i, none⟩ = (#[.slice (some ⟨b, 0, none⟩) y.ws.length cb, .int .i64 y.off, .int .i64 x.n, .int .i64 y.inc] : Array Value)[i]? := fun w' hb i => (hb.cell s2 (by simp; omega)).trans (b2 i)
  go_wp2
  clear b1 b2
  go_loopw [9] (fun c wr => ∃ (i : Nat), (i : Int) ≤ x.n ∧ c = .int .i64 i ∧ But W [a, b] wr ∧ FW wr a (writes x.ws x.place y.num i) ∧ FW wr b (writes y.ws y.place x.num i)) (fun c _ => (x.n - intOf c).toNat)
  case atStart => exact ⟨0, hn0.1, rfl, But.refl _ _, hFW, hHW⟩
  case round =>
    obtain ⟨i, hi, rfl, hB, hA1, hB1⟩ := hrel
    by_cases hlt : (i : Int) < x.n
    · have hp := VecM.right_place Hx.out hlt
      have hq := VecM.right_place Hy.out (i := i) (by have := Hn.out; omega)
      have h2 : IntKind.i64.wrap (i * x.inc) = i * x.inc := IntWalk.i64_in _ (by omega)
      have h3 : IntKind.i64.wrap (x.off + i * x.inc) = x.off + i * x.inc := IntWalk.i64_in _ (by omega)
      have h4 : IntKind.i64.wrap (i * y.inc) = i * y.inc := IntWalk.i64_in _ (by omega)
      have h5 : IntKind.i64.wrap (y.off + i * y.inc) = y.off + i * y.inc := IntWalk.i64_in _ (by omega)
      obtain ⟨r0, hr0, hf0⟩ := hA1.get (i := x.place i) (by rw [writes_length]; unfold VecM.place; omega)
      obtain ⟨s0, hs0, hg0⟩ := hB1.get (i := y.place i) (by rw [writes_length]; unfold VecM.place; omega)
      rw [writes_other i (fun t ht e => by have := VecM.place_inj Hx.out (by omega) hlt e; omega)] at hf0
      rw [writes_other i (fun t ht e => by have := VecM.place_inj Hy.out (by have := Hn.out; omega) (by have := Hn.out; omega) e; omega)] at hg0
      have hf1 : IsF r0 (x.num i) := hf0
      have hg1 : IsF s0 (y.num i) := hg0
      have hr1 := hr0
      have hs1 := hs0
      unfold VecM.place at hr1 hs1
      have t1 := c1 _ hB
      have t2 := c2 _ hB
      have z1 := hB.size
      have k1 : w.heap.size < wr.heap.size := by omega
      have k2 : w.heap.size + 1 < wr.heap.size := by omega
      have gl := hA1.lt
      have gl2 := hB1.lt
      have fz1 : ∀ i, wr.frozen? ⟨a, i, none⟩ = false := hA1.notFrozen
      have fz2 : ∀ i, wr.frozen? ⟨b, i, none⟩ = false := hB1.notFrozen
      go_wp2
      refine wp_region_R (Grew wr) [] [(0,0), (0,1), (0,2), (0,3), (0,4), (0,5), (0,6), (0,7), (0,8), (0,9), (0,10), (0,11), (0,12), (0,13), (0,14), (0,15), (0,16), (0,17), (0,18), (0,19), (0,20), (0,21)] (by kernel_rfl) (by kernel_rfl) (fun _ _ _ _ h _ => h) (by first | exact ⟨_, _, ext_drew⟩ | exact ⟨_, _, drew_ext0⟩ | (show Grew _ _; repeat (first | (with_reducible exact Grew.refl _) | (with_reducible assumption) | (with_reducible refine Grew.ext ?_ _ _) | (with_reducible refine Grew.alloc ?_ _) | ((with_reducible refine Grew.setCell ?_ ?_ _); rotate_left; (focus (dsimp only; first | omega | (simp only [size_ext, World.size_alloc, Array.size_append]; omega)))) | (with_reducible refine Grew.drewN ?_ _) | (with_reducible refine Grew.drew ?_)))) ?_
      go_wp2_with (first | ((with_reducible refine wpR_id ?_); first | (refine wpR_take (v := ?_) rfl rfl ?_ ?_; rotate_left; (focus (rintro w' ⟨o', n', rfl⟩; go_simp; try with_reducible rfl)); simp only [Act.put, List.setIfInBounds_toArray, List.set_cons_zero, List.set_cons_succ]) | (refine wpR_pure (v := ?_) rfl rfl ?_ ?_; rotate_left; (focus (intro w'; go_simp; try with_reducible rfl)); simp only [Act.put, List.setIfInBounds_toArray, List.set_cons_zero, List.set_cons_succ]) | (refine wpR_takeG (v := ?_) rfl rfl rfl rfl rfl ?_ ?_; rotate_left; (focus (rintro w' ⟨o', n', rfl⟩; go_simp; try with_reducible rfl)); simp only [Act.put, List.setIfInBounds_toArray, List.set_cons_zero, List.set_cons_succ]) | (refine wpR_skip rfl rfl rfl rfl rfl rfl ?_; simp only [Act.put, List.setIfInBounds_toArray, List.set_cons_zero, List.set_cons_succ]) | (refine wpR_skipU rfl rfl rfl rfl rfl ?_; simp only [Act.put, List.setIfInBounds_toArray, List.set_cons_zero, List.set_cons_succ]) | (refine wpR_do rfl rfl (fun K hK => ?_)) | (refine wpR_doG rfl rfl rfl rfl rfl (fun K hK => ?_)) | (refine wpR_last rfl rfl (fun K hK => ?_)) | (refine wpR_nil ?_)) | ((with_reducible refine wpR_go ?_ ?_); (focus exact ⟨_, _, rfl⟩)) | ((with_reducible refine upon_id ?_); refine upon_fop rfl (by assumption) (by assumption) ?_; intro rr nn hr))
      refine wp_region_R (Grew wr) [9, 11] [(3,0), (3,1), (3,2), (3,3), (0,4), (3,5), (3,6), (0,7), (3,8), (2,9), (3,10), (2,11)] (by kernel_rfl) (by kernel_rfl) (fun _ _ _ _ h _ => h) (by first | exact ⟨_, _, ext_drew⟩ | exact ⟨_, _, drew_ext0⟩ | (show Grew _ _; repeat (first | (with_reducible exact Grew.refl _) | (with_reducible assumption) | (with_reducible refine Grew.ext ?_ _ _) | (with_reducible refine Grew.alloc ?_ _) | ((with_reducible refine Grew.setCell ?_ ?_ _); rotate_left; (focus (dsimp only; first | omega | (simp only [size_ext, World.size_alloc, Array.size_append]; omega)))) | (with_reducible refine Grew.drewN ?_ _) | (with_reducible refine Grew.drew ?_)))) ?_
      go_wp2_with (first | ((with_reducible refine wpR_id ?_); first | (refine wpR_take (v := ?_) rfl rfl ?_ ?_; rotate_left; (focus (rintro w' ⟨o', n', rfl⟩; go_simp; try with_reducible rfl)); simp only [Act.put, List.setIfInBounds_toArray, List.set_cons_zero, List.set_cons_succ]) | (refine wpR_pure (v := ?_) rfl rfl ?_ ?_; rotate_left; (focus (intro w'; go_simp; try with_reducible rfl)); simp only [Act.put, List.setIfInBounds_toArray, List.set_cons_zero, List.set_cons_succ]) | (refine wpR_takeG (v := ?_) rfl rfl rfl rfl rfl ?_ ?_; rotate_left; (focus (rintro w' ⟨o', n', rfl⟩; go_simp; try with_reducible rfl)); simp only [Act.put, List.setIfInBounds_toArray, List.set_cons_zero, List.set_cons_succ]) | (refine wpR_skip rfl rfl rfl rfl rfl rfl ?_; simp only [Act.put, List.setIfInBounds_toArray, List.set_cons_zero, List.set_cons_succ]) | (refine wpR_skipU rfl rfl rfl rfl rfl ?_; simp only [Act.put, List.setIfInBounds_toArray, List.set_cons_zero, List.set_cons_succ]) | (refine wpR_do rfl rfl (fun K hK => ?_)) | (refine wpR_doG rfl rfl rfl rfl rfl (fun K hK => ?_)) | (refine wpR_last rfl rfl (fun K hK => ?_)) | (refine wpR_nil ?_)) | ((with_reducible refine wpR_go ?_ ?_); (focus exact ⟨_, _, rfl⟩)) | ((with_reducible refine upon_id ?_); refine upon_fop rfl (by assumption) (by assumption) ?_; intro rr nn hr))
      go_roundw
      case rel =>
        have e1 : FW (wr.setCell ⟨a, (x.off + i * x.inc).toNat, none⟩ (.float .f64 s0)) a (writes x.ws x.place y.num (i + 1)) := hA1.setc hg1
        have e2 : FW (wr.setCell ⟨a, (x.off + i * x.inc).toNat, none⟩ (.float .f64 s0)) b (writes y.ws y.place x.num i) := hB1.setCell_ne hab _
        have e3 := hB.setc (k := (x.off + i * x.inc).toNat) (r := s0) hA1 (by simp)
        have e4 : FW ((wr.setCell ⟨a, (x.off + i * x.inc).toNat, none⟩ (.float .f64 s0)).setCell ⟨b, (y.off + i * y.inc).toNat, none⟩ (.float .f64 r0)) b (writes y.ws y.place x.num (i + 1)) := e2.setc hf1
        have e5 := e3.setc (k := (y.off + i * y.inc).toNat) (r := r0) e2 (by simp)
        have gd : ∀ v : World, Grew v v.drew.drew := fun v => ((Grew.refl v).drew).drew
        exact ⟨i + 1, by omega, by go_num, e5.grew (gd _), (FW.setCell_ne e1 hba _).grew (gd _), e4.grew (gd _)⟩
      case measure => simp [intOf]; omega
    · have e : x.n.toNat = i := by omega
      have f1 : FW wr a (VecMwrite x y.list) := by rw [← copy_own Hn.out, e]; exact hA1
      have f2 : FW wr b (VecMwrite y x.list) := by rw [← copy_own Hn.out.symm, show y.n.toNat = i by rw [Hn.out]; exact e]; exact hB1
      have f3 : But w [a, b] wr := ⟨hB.os.trans g0.below.os, hB.tape.trans g0.below.tape, hB.output.trans g0.below.output, Nat.le_trans g0.below.size hB.size, fun k hk hG => (hB.block k (Nat.lt_of_lt_of_le hk g0.below.size) hG).trans (g0.below.block k hk)⟩
      go_wp2
      go_end0
      exact ⟨rfl, f3, f1, f2⟩
end Go.Proofs.Ytcmggfpcbijcjaa
end
section
/-
  Contracts: move.Swap.
-/
set_option linter.unusedSimpArgs false
set_option linter.unusedVariables false
open Go Go.RowKit Sedge
namespace Go.Proofs.Ytcmggfpcbijcjaa
def swapL (x y : VecM) : List Nat := if pairE x y true = 0 then VecMwrite (withV y (VecMwrite x y.list)) x.list else x.ws
theorem swaps_write {x y : VecM} (hxy : y.ws = x.ws) (h : pairE x y true = 0) : swaps x.ws x.place y.place x.n.toNat = VecMwrite (withV y (VecMwrite x y.list)) x.list := by
  obtain ⟨hx, hy, hn, hm⟩ := pairE_ok h
  have hm' : meetsB x y = false := by simpa using hm
  rw [swaps_eq _ (fun s t hs ht e => VecM.place_inj hx (by omega) (by omega) e) (fun s t hs ht e => VecM.place_inj hy (by omega) (by omega) e) (fun s t hs ht => meetsB_no hm' hx hy (by omega) (by omega))]
  rw [← copy_own (a := withV y (VecMwrite x y.list)) (b := x) hn, ← copy_own (a := x) (b := y) hn.symm]
  show _ = writes (writes x.ws x.place y.num x.n.toNat) y.place x.num y.n.toNat
  rw [← hn]
  have e : (fun t => x.ws.getD (y.place t) 0) = y.num := funext fun t => by unfold VecM.num; rw [hxy]
  rw [e]; rfl
set_option maxRecDepth 100000 in
set_option maxHeartbeats 1000000 in
/-- move.Swap, in one list. -/
theorem swapO_any (x y : VecM) (a ca : Nat) (w : World) (hF : FW w a x.ws) (hxy : y.ws = x.ws) (hwx : x.wf) (hwy : y.wf) (hlx : x.ws.length ≤ 1000000) :
   Calls Try.prog 64 #[.agg #[.slice (some ⟨a, 0, none⟩) x.ws.length ca, .int .i64 x.off, .int .i64 x.n, .int .i64 x.inc], .agg #[.slice (some ⟨a, 0, none⟩) x.ws.length ca, .int .i64 y.off, .int .i64 y.n, .int .i64 y.inc]] w
     (fun e w' => e = .returned (.int .i64 (pairE x y true)) ∧ Wrote w w' a (swapL x y)) := by
  have hA := hF.fs (by omega) ca
  have hltg := hF.lt
  have hpc : ∀ w', Plain w' a → FS w' (.slice (some ⟨a, 0, none⟩) x.ws.length ca) x.ws → Calls Try.prog 63 #[.agg #[.slice (some ⟨a, 0, none⟩) x.ws.length ca, .int .i64 x.off, .int .i64 x.n, .int .i64 x.inc], .agg #[.slice (some ⟨a, 0, none⟩) x.ws.length ca, .int .i64 y.off, .int .i64 y.n, .int .i64 y.inc]] w'
      (fun e w2 => e = .returned (.int .i64 (pairE x y true)) ∧ ∃ o n, w2 = ext w' o n) := fun w' p1 h1 => by
    have := pair_any x y a a ca ca w' h1 (by rw [hxy]; exact h1) p1 p1 hwx hwy hlx (by rw [hxy]; exact hlx)
    rw [hxy] at this; simpa using this
  by_cases hp : pairE x y true = 0
  · obtain ⟨hx, hy, hn, _⟩ := pairE_ok hp
    have hL := hid (show swapL x y = swaps x.ws x.place y.place x.n.toNat by unfold swapL; rw [if_pos hp, swaps_write hxy hp])
    have hsw : ∀ w', FW w' a x.ws → Calls Try.prog 131 #[.agg #[.slice (some ⟨a, 0, none⟩) x.ws.length ca, .int .i64 x.off, .int .i64 x.n, .int .i64 x.inc], .agg #[.slice (some ⟨a, 0, none⟩) x.ws.length ca, .int .i64 y.off, .int .i64 y.n, .int .i64 y.inc]] w'
       (fun e w2 => e = .returned (.tuple #[]) ∧ Wrote w' w2 a (swaps x.ws x.place y.place x.n.toNat)) := fun w' h => swap1_any x y a ca w' h hxy hx hy hwx hwy hn.symm hlx
    rw [hp] at hpc ⊢
    clear hx hy hn hp hwx hwy hxy
    go_enter Try.func64, Try.ntmps64
    refine seq_stop ?_
    go_wp2
    refine stop_go (fun W hW => ?_)
    have s1 : w.heap.size < W.heap.size := by rw [hW]; simp only [World.size_alloc]; omega
    have b1 : ∀ i, W.cell? ⟨w.heap.size, i, none⟩ = (#[.slice (some ⟨a, 0, none⟩) x.ws.length ca, .int .i64 x.off, .int .i64 x.n, .int .i64 x.inc] : Array Value)[i]? := by intro i; rw [hW]; go_simp
    have s2 : w.heap.size + 1 < W.heap.size := by rw [hW]; simp only [World.size_alloc]; omega
    have b2 : ∀ i, W.cell? ⟨w.heap.size + 1, i, none⟩ = (#[.slice (some ⟨a, 0, none⟩) x.ws.length ca, .int .i64 y.off, .int .i64 y.n, .int .i64 y.inc] : Array Value)[i]? := by intro i; rw [hW]; go_simp
    have g0 : Grew w W := by rw [hW]; exact ((Grew.refl _).alloc _).alloc _
    clear hW
    have hAW := hA.grew g0
    have hFW := hF.grew g0
    go_wp2_with (first | (go_at_call 63; ((with_reducible refine (hpc _ ((FW.plain hF).grew (by (show Grew _ _; repeat (first | (with_reducible exact Grew.refl _) | (with_reducible assumption) | (with_reducible refine Grew.ext ?_ _ _) | (with_reducible refine Grew.alloc ?_ _) | ((with_reducible refine Grew.setCell ?_ ?_ _); rotate_left; (focus (dsimp only; first | omega | (simp only [size_ext, World.size_alloc, Array.size_append]; omega)))) | (with_reducible refine Grew.drewN ?_ _) | (with_reducible refine Grew.drew ?_))))) ?_).mono ?_); (focus (first | (with_reducible assumption) | (with_reducible refine FS.ext ?_ _ _; with_reducible assumption) | (with_reducible refine IS.ext ?_ _ _; with_reducible assumption) | (refine hDu _ ?_; with_reducible assumption) | (refine hOu _ ?_; with_reducible assumption) | (refine hDa _ ?_; with_reducible assumption) | (refine hDb _ ?_; with_reducible assumption) | (refine hDc _ ?_; with_reducible assumption) | (refine hDd _ ?_; with_reducible assumption) | (refine FW.fs ?_ (by omega) _; with_reducible assumption) | (refine WS.fs ?_; with_reducible assumption) | (refine FW.fs ?_ (by omega) _; assumption) | omega | assumption)); rintro e w1 ⟨rfl, o1, n1, rfl⟩)) | (go_at_call 131; ((with_reducible refine (hsw _ (hFW.ext _ _)).mono ?_); rintro e w1 ⟨rfl, hw1⟩; (have gw := Wrote.grew_l (g0.ext _ _) (by omega) hw1))))
    go_ret
    exact ⟨rfl, by rw [hL.out]; exact gw⟩
  · have hL := hid (show swapL x y = x.ws by unfold swapL; rw [if_neg hp])
    obtain ⟨E, hE⟩ : ∃ E, E = pairE x y true := ⟨_, rfl⟩
    rw [← hE] at hp hpc ⊢
    have d2 : (E == 0) = false := by simpa using hp
    clear hE hwx hwy hxy
    go_enter Try.func64, Try.ntmps64
    refine seq_stop ?_
    go_wp2
    refine stop_go (fun W hW => ?_)
    have s1 : w.heap.size < W.heap.size := by rw [hW]; simp only [World.size_alloc]; omega
    have b1 : ∀ i, W.cell? ⟨w.heap.size, i, none⟩ = (#[.slice (some ⟨a, 0, none⟩) x.ws.length ca, .int .i64 x.off, .int .i64 x.n, .int .i64 x.inc] : Array Value)[i]? := by intro i; rw [hW]; go_simp
    have s2 : w.heap.size + 1 < W.heap.size := by rw [hW]; simp only [World.size_alloc]; omega
    have b2 : ∀ i, W.cell? ⟨w.heap.size + 1, i, none⟩ = (#[.slice (some ⟨a, 0, none⟩) x.ws.length ca, .int .i64 y.off, .int .i64 y.n, .int .i64 y.inc] : Array Value)[i]? := by intro i; rw [hW]; go_simp
    have g0 : Grew w W := by rw [hW]; exact ((Grew.refl _).alloc _).alloc _
    clear hW
    have hAW := hA.grew g0
    go_wp2_with (first | (go_at_call 63; ((with_reducible refine (hpc _ ((FW.plain hF).grew (by (show Grew _ _; repeat (first | (with_reducible exact Grew.refl _) | (with_reducible assumption) | (with_reducible refine Grew.ext ?_ _ _) | (with_reducible refine Grew.alloc ?_ _) | ((with_reducible refine Grew.setCell ?_ ?_ _); rotate_left; (focus (dsimp only; first | omega | (simp only [size_ext, World.size_alloc, Array.size_append]; omega)))) | (with_reducible refine Grew.drewN ?_ _) | (with_reducible refine Grew.drew ?_))))) ?_).mono ?_); (focus (first | (with_reducible assumption) | (with_reducible refine FS.ext ?_ _ _; with_reducible assumption) | (with_reducible refine IS.ext ?_ _ _; with_reducible assumption) | (refine hDu _ ?_; with_reducible assumption) | (refine hOu _ ?_; with_reducible assumption) | (refine hDa _ ?_; with_reducible assumption) | (refine hDb _ ?_; with_reducible assumption) | (refine hDc _ ?_; with_reducible assumption) | (refine hDd _ ?_; with_reducible assumption) | (refine FW.fs ?_ (by omega) _; with_reducible assumption) | (refine WS.fs ?_; with_reducible assumption) | (refine FW.fs ?_ (by omega) _; assumption) | omega | assumption)); rintro e w1 ⟨rfl, o1, n1, rfl⟩)))
    go_ret
    exact ⟨rfl, by rw [hL.out]; exact Wrote.grew_r (Wrote.refl hF) (by (show Grew _ _; repeat (first | (with_reducible exact Grew.refl _) | (with_reducible assumption) | (with_reducible refine Grew.ext ?_ _ _) | (with_reducible refine Grew.alloc ?_ _) | ((with_reducible refine Grew.setCell ?_ ?_ _); rotate_left; (focus (dsimp only; first | omega | (simp only [size_ext, World.size_alloc, Array.size_append]; omega)))) | (with_reducible refine Grew.drewN ?_ _) | (with_reducible refine Grew.drew ?_))))⟩
def swapX (x y : VecM) : List Nat := if pairE x y false = 0 then VecMwrite x y.list else x.ws
def swapY (x y : VecM) : List Nat := if pairE x y false = 0 then VecMwrite y x.list else y.ws
set_option maxRecDepth 100000 in
set_option maxHeartbeats 1000000 in
/-- move.Swap, in two lists. -/
theorem swapT_any (x y : VecM) (a b ca cb : Nat) (w : World) (hF : FW w a x.ws) (hH : FW w b y.ws) (hab : a ≠ b) (hwx : x.wf) (hwy : y.wf) (hlx : x.ws.length ≤ 1000000) (hly : y.ws.length ≤ 1000000) :
   Calls Try.prog 64 #[.agg #[.slice (some ⟨a, 0, none⟩) x.ws.length ca, .int .i64 x.off, .int .i64 x.n, .int .i64 x.inc], .agg #[.slice (some ⟨b, 0, none⟩) y.ws.length cb, .int .i64 y.off, .int .i64 y.n, .int .i64 y.inc]] w
     (fun e w' => e = .returned (.int .i64 (pairE x y false)) ∧ But w [a, b] w' ∧ FW w' a (swapX x y) ∧ FW w' b (swapY x y)) := by
  have hA := hF.fs (by omega) ca
  have hB := hH.fs (by omega) cb
  have hltg := hF.lt
  have hpc : ∀ w', Plain w' a → Plain w' b → FS w' (.slice (some ⟨a, 0, none⟩) x.ws.length ca) x.ws → FS w' (.slice (some ⟨b, 0, none⟩) y.ws.length cb) y.ws → Calls Try.prog 63 #[.agg #[.slice (some ⟨a, 0, none⟩) x.ws.length ca, .int .i64 x.off, .int .i64 x.n, .int .i64 x.inc], .agg #[.slice (some ⟨b, 0, none⟩) y.ws.length cb, .int .i64 y.off, .int .i64 y.n, .int .i64 y.inc]] w'
      (fun e w2 => e = .returned (.int .i64 (pairE x y false)) ∧ ∃ o n, w2 = ext w' o n) := fun w' p1 p2 h1 h2 => by
    have := pair_any x y a b ca cb w' h1 h2 p1 p2 hwx hwy hlx hly
    rw [show decide (a = b) = false by simpa using hab] at this; exact this
  have gb : ∀ w', Grew w w' → But w [a, b] w' := fun w' g => (But.refl w [a, b]).grew g
  by_cases hp : pairE x y false = 0
  · obtain ⟨hx, hy, hn, _⟩ := pairE_ok hp
    have hL := hid (show swapX x y = VecMwrite x y.list by unfold swapX; rw [if_pos hp])
    have hM := hid (show swapY x y = VecMwrite y x.list by unfold swapY; rw [if_pos hp])
    have hsw : ∀ w', FW w' a x.ws → FW w' b y.ws → Calls Try.prog 131 #[.agg #[.slice (some ⟨a, 0, none⟩) x.ws.length ca, .int .i64 x.off, .int .i64 x.n, .int .i64 x.inc], .agg #[.slice (some ⟨b, 0, none⟩) y.ws.length cb, .int .i64 y.off, .int .i64 y.n, .int .i64 y.inc]] w'
       (fun e w2 => e = .returned (.tuple #[]) ∧ But w' [a, b] w2 ∧ FW w2 a (VecMwrite x y.list) ∧ FW w2 b (VecMwrite y x.list)) := fun w' h1 h2 => by
      have := swap2_any x y a b ca cb w' h1 h2 hab hx hy hn.symm hlx hly
      rw [← hn]; exact this
    rw [hp] at hpc ⊢
    clear hx hy hn hp hwx hwy
    go_enter Try.func64, Try.ntmps64
    refine seq_stop ?_
    go_wp2
    refine stop_go (fun W hW => ?_)
    have s1 : w.heap.size < W.heap.size := by rw [hW]; simp only [World.size_alloc]; omega
    have b1 : ∀ i, W.cell? ⟨w.heap.size, i, none⟩ = (#[.slice (some ⟨a, 0, none⟩) x.ws.length ca, .int .i64 x.off, .int .i64 x.n, .int .i64 x.inc] : Array Value)[i]? := by intro i; rw [hW]; go_simp
    have s2 : w.heap.size + 1 < W.heap.size := by rw [hW]; simp only [World.size_alloc]; omega
    have b2 : ∀ i, W.cell? ⟨w.heap.size + 1, i, none⟩ = (#[.slice (some ⟨b, 0, none⟩) y.ws.length cb, .int .i64 y.off, .int .i64 y.n, .int .i64 y.inc] : Array Value)[i]? := by intro i; rw [hW]; go_simp
    have g0 : Grew w W := by rw [hW]; exact ((Grew.refl _).alloc _).alloc _
    clear hW
    have hAW := hA.grew g0
    have hBW := hB.grew g0
    have hFW := hF.grew g0
    have hHW := hH.grew g0
    go_wp2_with (first | (go_at_call 63; ((with_reducible refine (hpc _ ((FW.plain hF).grew (by (show Grew _ _; repeat (first | (with_reducible exact Grew.refl _) | (with_reducible assumption) | (with_reducible refine Grew.ext ?_ _ _) | (with_reducible refine Grew.alloc ?_ _) | ((with_reducible refine Grew.setCell ?_ ?_ _); rotate_left; (focus (dsimp only; first | omega | (simp only [size_ext, World.size_alloc, Array.size_append]; omega)))) | (with_reducible refine Grew.drewN ?_ _) | (with_reducible refine Grew.drew ?_))))) ((FW.plain hH).grew (by (show Grew _ _; repeat (first | (with_reducible exact Grew.refl _) | (with_reducible assumption) | (with_reducible refine Grew.ext ?_ _ _) | (with_reducible refine Grew.alloc ?_ _) | ((with_reducible refine Grew.setCell ?_ ?_ _); rotate_left; (focus (dsimp only; first | omega | (simp only [size_ext, World.size_alloc, Array.size_append]; omega)))) | (with_reducible refine Grew.drewN ?_ _) | (with_reducible refine Grew.drew ?_))))) ?_ ?_).mono ?_); (focus (first | (with_reducible assumption) | (with_reducible refine FS.ext ?_ _ _; with_reducible assumption) | (with_reducible refine IS.ext ?_ _ _; with_reducible assumption) | (refine hDu _ ?_; with_reducible assumption) | (refine hOu _ ?_; with_reducible assumption) | (refine hDa _ ?_; with_reducible assumption) | (refine hDb _ ?_; with_reducible assumption) | (refine hDc _ ?_; with_reducible assumption) | (refine hDd _ ?_; with_reducible assumption) | (refine FW.fs ?_ (by omega) _; with_reducible assumption) | (refine WS.fs ?_; with_reducible assumption) | (refine FW.fs ?_ (by omega) _; assumption) | omega | assumption)); (focus (first | (with_reducible assumption) | (with_reducible refine FS.ext ?_ _ _; with_reducible assumption) | (with_reducible refine IS.ext ?_ _ _; with_reducible assumption) | (refine hDu _ ?_; with_reducible assumption) | (refine hOu _ ?_; with_reducible assumption) | (refine hDa _ ?_; with_reducible assumption) | (refine hDb _ ?_; with_reducible assumption) | (refine hDc _ ?_; with_reducible assumption) | (refine hDd _ ?_; with_reducible assumption) | (refine FW.fs ?_ (by omega) _; with_reducible assumption) | (refine WS.fs ?_; with_reducible assumption) | (refine FW.fs ?_ (by omega) _; assumption) | omega | assumption)); rintro e w1 ⟨rfl, o1, n1, rfl⟩)) | (go_at_call 131; ((with_reducible refine (hsw _ (hFW.ext _ _) (hHW.ext _ _)).mono ?_); rintro e w1 ⟨rfl, hb1, hf1, hf2⟩; (have gw := (gb _ (g0.ext o1 n1)).trans hb1 (fun b hb => .inl hb)))))
    go_ret
    exact ⟨rfl, gw, by rw [hL.out]; exact hf1, by rw [hM.out]; exact hf2⟩
  · have hL := hid (show swapX x y = x.ws by unfold swapX; rw [if_neg hp])
    have hM := hid (show swapY x y = y.ws by unfold swapY; rw [if_neg hp])
    obtain ⟨E, hE⟩ : ∃ E, E = pairE x y false := ⟨_, rfl⟩
    rw [← hE] at hp hpc ⊢
    have d2 : (E == 0) = false := by simpa using hp
    clear hE hwx hwy
    go_enter Try.func64, Try.ntmps64
    refine seq_stop ?_
    go_wp2
    refine stop_go (fun W hW => ?_)
    have s1 : w.heap.size < W.heap.size := by rw [hW]; simp only [World.size_alloc]; omega
    have b1 : ∀ i, W.cell? ⟨w.heap.size, i, none⟩ = (#[.slice (some ⟨a, 0, none⟩) x.ws.length ca, .int .i64 x.off, .int .i64 x.n, .int .i64 x.inc] : Array Value)[i]? := by intro i; rw [hW]; go_simp
    have s2 : w.heap.size + 1 < W.heap.size := by rw [hW]; simp only [World.size_alloc]; omega
    have b2 : ∀ i, W.cell? ⟨w.heap.size + 1, i, none⟩ = (#[.slice (some ⟨b, 0, none⟩) y.ws.length cb, .int .i64 y.off, .int .i64 y.n, .int .i64 y.inc] : Array Value)[i]? := by intro i; rw [hW]; go_simp
    have g0 : Grew w W := by rw [hW]; exact ((Grew.refl _).alloc _).alloc _
    clear hW
    have hAW := hA.grew g0
    have hBW := hB.grew g0
    go_wp2_with (first | (go_at_call 63; ((with_reducible refine (hpc _ ((FW.plain hF).grew (by (show Grew _ _; repeat (first | (with_reducible exact Grew.refl _) | (with_reducible assumption) | (with_reducible refine Grew.ext ?_ _ _) | (with_reducible refine Grew.alloc ?_ _) | ((with_reducible refine Grew.setCell ?_ ?_ _); rotate_left; (focus (dsimp only; first | omega | (simp only [size_ext, World.size_alloc, Array.size_append]; omega)))) | (with_reducible refine Grew.drewN ?_ _) | (with_reducible refine Grew.drew ?_))))) ((FW.plain hH).grew (by (show Grew _ _; repeat (first | (with_reducible exact Grew.refl _) | (with_reducible assumption) | (with_reducible refine Grew.ext ?_ _ _) | (with_reducible refine Grew.alloc ?_ _) | ((with_reducible refine Grew.setCell ?_ ?_ _); rotate_left; (focus (dsimp only; first | omega | (simp only [size_ext, World.size_alloc, Array.size_append]; omega)))) | (with_reducible refine Grew.drewN ?_ _) | (with_reducible refine Grew.drew ?_))))) ?_ ?_).mono ?_); (focus (first | (with_reducible assumption) | (with_reducible refine FS.ext ?_ _ _; with_reducible assumption) | (with_reducible refine IS.ext ?_ _ _; with_reducible assumption) | (refine hDu _ ?_; with_reducible assumption) | (refine hOu _ ?_; with_reducible assumption) | (refine hDa _ ?_; with_reducible assumption) | (refine hDb _ ?_; with_reducible assumption) | (refine hDc _ ?_; with_reducible assumption) | (refine hDd _ ?_; with_reducible assumption) | (refine FW.fs ?_ (by omega) _; with_reducible assumption) | (refine WS.fs ?_; with_reducible assumption) | (refine FW.fs ?_ (by omega) _; assumption) | omega | assumption)); (focus (first | (with_reducible assumption) | (with_reducible refine FS.ext ?_ _ _; with_reducible assumption) | (with_reducible refine IS.ext ?_ _ _; with_reducible assumption) | (refine hDu _ ?_; with_reducible assumption) | (refine hOu _ ?_; with_reducible assumption) | (refine hDa _ ?_; with_reducible assumption) | (refine hDb _ ?_; with_reducible assumption) | (refine hDc _ ?_; with_reducible assumption) | (refine hDd _ ?_; with_reducible assumption) | (refine FW.fs ?_ (by omega) _; with_reducible assumption) | (refine WS.fs ?_; with_reducible assumption) | (refine FW.fs ?_ (by omega) _; assumption) | omega | assumption)); rintro e w1 ⟨rfl, o1, n1, rfl⟩)))
    go_ret
    exact ⟨rfl, gb _ (by (show Grew _ _; repeat (first | (with_reducible exact Grew.refl _) | (with_reducible assumption) | (with_reducible refine Grew.ext ?_ _ _) | (with_reducible refine Grew.alloc ?_ _) | ((with_reducible refine Grew.setCell ?_ ?_ _); rotate_left; (focus (dsimp only; first | omega | (simp only [size_ext, World.size_alloc, Array.size_append]; omega)))) | (with_reducible refine Grew.drewN ?_ _) | (with_reducible refine Grew.drew ?_)))), by rw [hL.out]; exact hF.grew (by (show Grew _ _; repeat (first | (with_reducible exact Grew.refl _) | (with_reducible assumption) | (with_reducible refine Grew.ext ?_ _ _) | (with_reducible refine Grew.alloc ?_ _) | ((with_reducible refine Grew.setCell ?_ ?_ _); rotate_left; (focus (dsimp only; first | omega | (simp only [size_ext, World.size_alloc, Array.size_append]; omega)))) | (with_reducible refine Grew.drewN ?_ _) | (with_reducible refine Grew.drew ?_)))), by rw [hM.out]; exact hH.grew (by (show Grew _ _; repeat (first | (with_reducible exact Grew.refl _) | (with_reducible assumption) | (with_reducible refine Grew.ext ?_ _ _) | (with_reducible refine Grew.alloc ?_ _) | ((with_reducible refine Grew.setCell ?_ ?_ _); rotate_left; (focus (dsimp only; first | omega | (simp only [size_ext, World.size_alloc, Array.size_append]; omega)))) | (with_reducible refine Grew.drewN ?_ _) | (with_reducible refine Grew.drew ?_))))⟩
end Go.Proofs.Ytcmggfpcbijcjaa
end
section
/-
  axes.Axpy (lists apart); the example of layer 6.
-/
set_option linter.unusedSimpArgs false
set_option linter.unusedVariables false
open Go Go.RowKit Sedge
namespace Go.Proofs.Ytcmggfpcbijcjaa
set_option maxRecDepth 100000 in
set_option maxHeartbeats 1000000 in
/-- axes.Axpy's closure. -/
theorem axcl_any (i pl g T3 T4 a α r0 z0 bx cx rx xv : Nat) (x : VecM) (w : World) (hca : ∀ i, w.cell? ⟨T3, i, none⟩ = (#[.float .f64 a] : Array Value)[i]?) (ha : IsF a α)
    (hcx : ∀ i, w.cell? ⟨T4, i, none⟩ = (#[.slice (some ⟨bx, 0, none⟩) x.ws.length cx, .int .i64 x.off, .int .i64 x.n, .int .i64 x.inc] : Array Value)[i]?) (kT3 : T3 < w.heap.size) (kT4 : T4 < w.heap.size) (kg : g < w.heap.size) (kbx : bx < w.heap.size)
    (hx : x.right = true) (hi : (i : Int) < x.n) (hl : x.ws.length ≤ 1000000) (h1 : w.cell? ⟨bx, x.place i, none⟩ = some (.float .f64 rx)) (f1 : IsF rx xv)
    (h3 : w.cell? ⟨g, pl, none⟩ = some (.float .f64 r0)) (f3 : IsF r0 z0) (fz : ∀ i, w.frozen? ⟨g, i, none⟩ = false) :
   Calls Try.prog 118 #[.int .i64 i, .pointer (some ⟨g, pl, none⟩), .pointer (some ⟨T3, 0, none⟩), .pointer (some ⟨T4, 0, none⟩)] w
     (fun e w' => e = .returned (.tuple #[]) ∧ ∃ r, IsF r (fadd z0 (fmul α xv)) ∧ ∃ o n, w' = ext (w.setCell ⟨g, pl, none⟩ (.float .f64 r)) o n) := by
  have hp := VecM.right_place hx hi
  have hn := VecM.right_n hx
  unfold VecM.place at h1
  have a1 : IntKind.i64.wrap (i * x.inc) = i * x.inc := IntWalk.i64_in _ (by omega)
  have a2 : IntKind.i64.wrap (x.off + i * x.inc) = x.off + i * x.inc := IntWalk.i64_in _ (by omega)
  clear hx
  go_enter Try.func118, Try.ntmps118
  go_wp2
  refine wp_region_R (Grew w) [18] [(3,0), (3,1), (0,2), (0,3), (3,4), (0,5), (3,6), (0,7), (3,8), (3,9), (0,10), (3,11), (3,12), (3,13), (0,14), (1,15), (1,16), (3,17), (2,18)] (by kernel_rfl) (by kernel_rfl) (fun _ _ _ _ h _ => h) (by first | exact ⟨_, _, ext_drew⟩ | exact ⟨_, _, drew_ext0⟩ | (show Grew _ _; repeat (first | (with_reducible exact Grew.refl _) | (with_reducible assumption) | (with_reducible refine Grew.ext ?_ _ _) | (with_reducible refine Grew.alloc ?_ _) | ((with_reducible refine Grew.setCell ?_ ?_ _); rotate_left; (focus (dsimp only; first | omega | (simp only [size_ext, World.size_alloc, Array.size_append]; omega)))) | (with_reducible refine Grew.drewN ?_ _) | (with_reducible refine Grew.drew ?_)))) ?_
  go_wp2_with (first | ((with_reducible refine wpR_id ?_); first | (refine wpR_take (v := ?_) rfl rfl ?_ ?_; rotate_left; (focus (rintro w' ⟨o', n', rfl⟩; go_simp; try with_reducible rfl)); simp only [Act.put, List.setIfInBounds_toArray, List.set_cons_zero, List.set_cons_succ]) | (refine wpR_pure (v := ?_) rfl rfl ?_ ?_; rotate_left; (focus (intro w'; go_simp; try with_reducible rfl)); simp only [Act.put, List.setIfInBounds_toArray, List.set_cons_zero, List.set_cons_succ]) | (refine wpR_takeG (v := ?_) rfl rfl rfl rfl rfl ?_ ?_; rotate_left; (focus (rintro w' ⟨o', n', rfl⟩; go_simp; try with_reducible rfl)); simp only [Act.put, List.setIfInBounds_toArray, List.set_cons_zero, List.set_cons_succ]) | (refine wpR_skip rfl rfl rfl rfl rfl rfl ?_; simp only [Act.put, List.setIfInBounds_toArray, List.set_cons_zero, List.set_cons_succ]) | (refine wpR_skipU rfl rfl rfl rfl rfl ?_; simp only [Act.put, List.setIfInBounds_toArray, List.set_cons_zero, List.set_cons_succ]) | (refine wpR_do rfl rfl (fun K hK => ?_)) | (refine wpR_doG rfl rfl rfl rfl rfl (fun K hK => ?_)) | (refine wpR_last rfl rfl (fun K hK => ?_)) | (refine wpR_nil ?_)) | ((with_reducible refine wpR_go ?_ ?_); (focus (show Grew _ _; repeat (first | (with_reducible exact Grew.refl _) | (with_reducible assumption) | (with_reducible refine Grew.ext ?_ _ _) | (with_reducible refine Grew.alloc ?_ _) | ((with_reducible refine Grew.setCell ?_ ?_ _); rotate_left; (focus (dsimp only; first | omega | (simp only [size_ext, World.size_alloc, Array.size_append]; omega)))) | (with_reducible refine Grew.drewN ?_ _) | (with_reducible refine Grew.drew ?_))))) | ((with_reducible refine upon_id ?_); refine upon_fop rfl (by assumption) (by assumption) ?_; intro rr nn hr))
  go_end0
  exact ⟨rfl, rr, hr, _, _, (by rw [drewN_ext0]; exact setCell_ext kg _)⟩
set_option maxRecDepth 100000 in
set_option maxHeartbeats 1000000 in
/-- axes.Axpy, of vectors in lists apart. -/
theorem axpy_any (a α : Nat) (x y : VecM) (bx cx g cg : Nat) (w : World) (ha : IsF a α) (hX : FW w bx x.ws) (hF : FW w g y.ws) (hne : g ≠ bx) (hx : x.right = true) (hy : y.right = true) (hn : y.n = x.n) (hwx : x.wf) (hwy : y.wf) (hlx : x.ws.length ≤ 1000000) (hly : y.ws.length ≤ 1000000) :
   Calls Try.prog 26 #[.float .f64 a, .agg #[.slice (some ⟨bx, 0, none⟩) x.ws.length cx, .int .i64 x.off, .int .i64 x.n, .int .i64 x.inc], .agg #[.slice (some ⟨g, 0, none⟩) y.ws.length cg, .int .i64 y.off, .int .i64 y.n, .int .i64 y.inc]] w (fun e w' => e = .returned (.int .i64 0) ∧ But w [g] w' ∧ FW w' g (axL (fun i z => fadd z (fmul α (x.num i))) y)) := by
  have hltg := hF.lt
  have hltx := hX.lt
  have hp : ∀ w', Grew w w' → Calls Try.prog 63 #[.agg #[.slice (some ⟨g, 0, none⟩) y.ws.length cg, .int .i64 y.off, .int .i64 y.n, .int .i64 y.inc], .agg #[.slice (some ⟨bx, 0, none⟩) x.ws.length cx, .int .i64 x.off, .int .i64 x.n, .int .i64 x.inc]] w' (fun e w2 => e = .returned (.int .i64 0) ∧ ∃ o n, w2 = ext w' o n) := fun w' hg => by
    have := pair_any y x g bx cg cx w' ((hF.grew hg).fs (by omega) cg) ((hX.grew hg).fs (by omega) cx) (FW.plain (hF.grew hg)) (FW.plain (hX.grew hg)) hwy hwx hly hlx
    rw [show pairE y x (decide (g = bx)) = 0 by unfold pairE; rw [if_pos ⟨hy, hx⟩, if_pos hn, if_neg (by simp [hne])]] at this
    exact this
  have hEach : ∀ T3 T4 w', Grew w w' → (∀ i, w'.cell? ⟨T3, i, none⟩ = (#[.float .f64 a] : Array Value)[i]?) → (∀ i, w'.cell? ⟨T4, i, none⟩ = (#[.slice (some ⟨bx, 0, none⟩) x.ws.length cx, .int .i64 x.off, .int .i64 x.n, .int .i64 x.inc] : Array Value)[i]?) → T3 < w'.heap.size → T4 < w'.heap.size → T3 ≠ g → T4 ≠ g →
      Calls Try.prog 117 #[.agg #[.slice (some ⟨g, 0, none⟩) y.ws.length cg, .int .i64 y.off, .int .i64 y.n, .int .i64 y.inc], .func (.func 118) #[] #[.pointer (some ⟨T3, 0, none⟩), .pointer (some ⟨T4, 0, none⟩)]] w' (fun e w2 => e = .returned (.tuple #[]) ∧ But w' [g] w2 ∧ FW w2 g (axL (fun i z => fadd z (fmul α (x.num i))) y)) := fun T3 T4 w' hg h3 h4 k3 k4 n3 n4 => by
    have h1 := hF.grew hg
    refine (eachAxpy y _ g 0 cg _ _ (RW1 y g fun i z => fadd z (fmul α (x.num i))) [g] w' hy hly (fun _ => rfl) (RW1.start h1) (fun _ _ _ h => h.1) (by simp; exact h1.lt) ?_).mono fun e w2 hh => ?_
    · intro W1 i w2 hg1 hi hR
      obtain ⟨hB, L, hL, hS⟩ := hR
      obtain ⟨r0, q1, q2⟩ := RW1.cell hL hS hy hi
      have z1 := hg1.below.size
      have z2 := hB.size
      have z3 := hg.below.size
      obtain ⟨rx, p1, p2⟩ := (hB.fw ((hX.grew hg).grew hg1) (by simpa using hne.symm)).get (i := x.place i) (VecM.place_lt hx (by omega))
      rw [Nat.zero_add]
      refine (axcl_any i (y.place i) g T3 T4 a α r0 _ bx cx rx _ x w2 (fun i => (hB.cell (by omega) (by simpa using n3)).trans ((hg1.cell k3).trans (h3 i))) ha (fun i => (hB.cell (by omega) (by simpa using n4)).trans ((hg1.cell k4).trans (h4 i))) (by omega) (by omega) hL.lt (by omega) hx (by omega) hlx p1 p2 q1 q2 hL.notFrozen).mono fun e w3 hh => ?_
      obtain ⟨e1, r, e2, o, n, rfl⟩ := hh
      exact ⟨e1, RW1.next hB hL hS hy hi e2 o n⟩
    · obtain ⟨e1, W1, e2, e3⟩ := hh
      exact ⟨e1, ((But.refl w' [g]).grew e2).trans e3.1 (fun _ hb => .inl hb), e3.done hy⟩
  clear hx hy hn hwx hwy
  have hmf := hmf
  go_enter Try.func26, Try.ntmps26
  refine seq_stop ?_
  go_wp2
  refine stop_go (fun W hW => ?_)
  have s1 : w.heap.size < W.heap.size := by rw [hW]; simp only [World.size_alloc]; omega
  have b1 : ∀ i, W.cell? ⟨w.heap.size, i, none⟩ = (#[.float .f64 a] : Array Value)[i]? := by intro i; rw [hW]; go_simp
  have s2 : w.heap.size + 1 < W.heap.size := by rw [hW]; simp only [World.size_alloc]; omega
  have b2 : ∀ i, W.cell? ⟨w.heap.size + 1, i, none⟩ = (#[.slice (some ⟨bx, 0, none⟩) x.ws.length cx, .int .i64 x.off, .int .i64 x.n, .int .i64 x.inc] : Array Value)[i]? := by intro i; rw [hW]; go_simp
  have s3 : w.heap.size + 1 + 1 < W.heap.size := by rw [hW]; simp only [World.size_alloc]; omega
  have b3 : ∀ i, W.cell? ⟨w.heap.size + 1 + 1, i, none⟩ = (#[.slice (some ⟨g, 0, none⟩) y.ws.length cg, .int .i64 y.off, .int .i64 y.n, .int .i64 y.inc] : Array Value)[i]? := by intro i; rw [hW]; go_simp
  have g0 : Grew w W := by rw [hW]; exact (((Grew.refl _).alloc _).alloc _).alloc _
  clear hW
  have zW := g0.below.size
  go_wp2_with (first | (go_at_call 63; ((with_reducible refine (hp _ (Grew.trans g0 (by (show Grew _ _; repeat (first | (with_reducible exact Grew.refl _) | (with_reducible assumption) | (with_reducible refine Grew.ext ?_ _ _) | (with_reducible refine Grew.alloc ?_ _) | ((with_reducible refine Grew.setCell ?_ ?_ _); rotate_left; (focus (dsimp only; first | omega | (simp only [size_ext, World.size_alloc, Array.size_append]; omega)))) | (with_reducible refine Grew.drewN ?_ _) | (with_reducible refine Grew.drew ?_)))))).mono ?_); rintro e w1 ⟨rfl, oa, na, rfl⟩)) | (go_at_call 117; ((with_reducible refine (hEach w.heap.size (w.heap.size + 1) _ (Grew.trans g0 (by (show Grew _ _; repeat (first | (with_reducible exact Grew.refl _) | (with_reducible assumption) | (with_reducible refine Grew.ext ?_ _ _) | (with_reducible refine Grew.alloc ?_ _) | ((with_reducible refine Grew.setCell ?_ ?_ _); rotate_left; (focus (dsimp only; first | omega | (simp only [size_ext, World.size_alloc, Array.size_append]; omega)))) | (with_reducible refine Grew.drewN ?_ _) | (with_reducible refine Grew.drew ?_))))) (fun i => (cell_ext s1).trans (b1 i)) (fun i => (cell_ext s2).trans (b2 i)) (by simp only [size_ext]; omega) (by simp only [size_ext]; omega) (by omega) (by omega)).mono ?_); rintro e w1 ⟨rfl, hB1, hF1⟩)))
  go_ret
  exact ⟨rfl, ((But.refl w [g]).grew (Grew.trans g0 ⟨_, _, rfl⟩)).trans hB1 (fun _ hb => .inl hb), hF1⟩
def L11 : List Nat := [4607182418800017408, 4607182418800017408]
def L34 : List Nat := [4613937818241073152, 4616189618054758400]
def L56 : List Nat := [4617315517961601024, 4618441417868443648]
theorem axpy_06 (bx cx g cg : Nat) (w : World) (hX : FW w bx L11) (hF : FW w g L34) (hne : g ≠ bx) :
   Calls Try.prog 26 #[.float .f64 4611686018427387904, .agg #[.slice (some ⟨bx, 0, none⟩) 2 cx, .int .i64 0, .int .i64 2, .int .i64 1], .agg #[.slice (some ⟨g, 0, none⟩) 2 cg, .int .i64 0, .int .i64 2, .int .i64 1]] w (fun e w' => e = .returned (.int .i64 0) ∧ But w [g] w' ∧ FW w' g L56) := by
  have h := axpy_any 4611686018427387904 4611686018427387904 ⟨L11, 0, 2, 1⟩ ⟨L34, 0, 2, 1⟩ bx cx g cg w (by decide +kernel) hX hF hne (by decide +kernel) (by decide +kernel) rfl (by simp [VecM.wf, I64]) (by simp [VecM.wf, I64]) (by decide) (by decide)
  rw [show axL (fun i z => fadd z (fmul 4611686018427387904 (VecM.num ⟨L11, 0, 2, 1⟩ i))) ⟨L34, 0, 2, 1⟩ = L56 by decide +kernel] at h
  exact h
set_option maxRecDepth 100000 in
set_option maxHeartbeats 2000000 in
theorem awake06 (w : World) : Calls Try.prog 24 #[] w (fun e w' => e = .returned (.bool true) ∧ ∃ o n, w' = ext w o n) := by
  have h1 : ∀ x ∈ L11, IsF x x := by decide +kernel
  have h3 : ∀ x ∈ L34, IsF x x := by decide +kernel
  have h5 : ∀ x ∈ L56, IsF x x := by decide +kernel
  have H1 := hid h1
  have H3 := hid h3
  have H5 := hid h5
  have da : decide (L56 = L56) = true := by decide +kernel
  clear h1 h3 h5
  have hno : ∀ w', Calls Try.prog 96 #[.float .f64 4607182418800017408, .agg #[.slice none 0 0, .int .i64 0, .int .i64 0, .int .i64 0]] w' (fun e w2 => e = .returned (.int .i64 1) ∧ ∃ o n, w2 = ext w' o n) := fun w' =>
    scal_no _ ⟨[], 0, 0, 0⟩ _ w' (FS.nil w') (by decide) (by simp [VecM.wf, I64])
  go_enter Try.func24, Try.ntmps24
  go_wp2_with (first | (go_at_call 96; ((with_reducible refine (hno _).mono ?_); rintro e w1 ⟨rfl, o1, n1, rfl⟩)))
  refine name_call (fun V hV => ?_)
  have gV : Grew w V := by rw [← hV]; (show Grew _ _; repeat (first | (with_reducible exact Grew.refl _) | (with_reducible assumption) | (with_reducible refine Grew.ext ?_ _ _) | (with_reducible refine Grew.alloc ?_ _) | ((with_reducible refine Grew.setCell ?_ ?_ _); rotate_left; (focus (dsimp only; first | omega | (simp only [size_ext, World.size_alloc, Array.size_append]; omega)))) | (with_reducible refine Grew.drewN ?_ _) | (with_reducible refine Grew.drew ?_)))
  have zV : w.heap.size + o1.size + 1 < V.heap.size := by rw [← hV]; simp only [World.size_alloc, size_ext]; omega
  have hg : FW V (w.heap.size + o1.size) L34 := by rw [← hV]; exact (FW.lit' (w := ext w o1 n1) (t := 22) L34 H3.out _ (by simp only [size_ext])).alloc _
  have hb : FW V (w.heap.size + o1.size + 1) L11 := by rw [← hV]; exact FW.lit' (t := 22) L11 H1.out _ (by simp only [size_ext, World.size_alloc])
  have hc := axpy_06 (w.heap.size + o1.size + 1) 2 (w.heap.size + o1.size) 2 V hb hg (by omega)
  obtain ⟨g, hgg⟩ : ∃ g, g = w.heap.size + o1.size := ⟨_, rfl⟩
  rw [← hgg] at hc
  simp only [← hgg]
  have zg : w.heap.size ≤ g := by omega
  clear hV hgg hg hb
  refine hc.mono ?_
  rintro e w1 ⟨rfl, hB, hF⟩
  have g1 : Grew w w1 := hB.grew0 gV (by intro k hk; simp at hk; omega)
  have hfs := hF.fs (by decide) 2
  go_wp2_with (first | (go_at_call 47; ((with_reducible refine (all_any _ _ L56 L56 _ ?_ ?_).mono ?_); (focus (exact hfs.alloc _)); (focus (repeat (first | exact FS.lit L56 (by decide) H5.out 2 _ (by simp only [size_ext, World.size_alloc]) | exact FS.lit L56 (by decide) H5.out 2 _ rfl | refine FS.alloc ?_ _ | refine FS.ext ?_ _ _))); rintro e w3 ⟨rfl, hw3⟩)))
  go_ret
  exact ⟨rfl, Grew.trans (g1.alloc _) hw3⟩
end Go.Proofs.Ytcmggfpcbijcjaa
end
section
/-
  Slices of whole numbers that a call makes itself: appends, two slices beside one another.
-/
set_option linter.unusedSimpArgs false
set_option linter.unusedVariables false
namespace Sedge
open Go Go.RowKit
/-- Their own blocks are not one. -/
def ApartV (u v : Value) : Prop := ∀ k, u.ownBlock = some k → v.ownBlock ≠ some k
section
variable {P : Program} {ops : Array Oper} {rest : List Oper} {o : Oper} {a : Act} {Q : Exit → Act → World → Prop}
theorem append1_v {t e e' : TypeId} {z0 : Value} (und : P.underlying t = some (.slice e)) (info : (P.info? e).map (fun i => (i.zero, i.size, i.bytes)) = some (some z0, 1, 8)) (hz0 : z0.cells.size = 1)
    {W w : World} (hW : Grew W w) {v y : Value} {xs : List Value} (hown : w.ownsRow W.heap.size e 1 v xs.length xs) (hy : y.oneCell' = true)
    (hlen : xs.length < 17592186044415) (s x : Operand) (hg : o.guard = none)
    (ho : o.op = .call { callee := .builtin .append, args := #[s, x], argTypes := #[t, t] }) (hs : a.eval s = v) {k : Nat} (hk : k = w.heap.size) (hx : a.eval x = .slice (some ⟨k, 0, none⟩) 1 1)
    (h : ∀ v' oo nn, (ext W oo nn).ownsRow W.heap.size e 1 v' (xs.length + 1) (xs ++ [y]) →
      (∀ e2 u n2 ys, w.ownsRow W.heap.size e2 1 u n2 ys → ApartV u v → (ext W oo nn).ownsRow W.heap.size e2 1 u n2 ys ∧ ApartV u v') → wpList P ops Q rest (a.put o.dst v') (ext W oo nn)) :
    wpList P ops Q (o :: rest) a (w.alloc (.cells #[y] e')) := by
  subst hk
  obtain ⟨i0, hi, hz⟩ := Option.map_eq_some_iff.1 info
  simp only [Prod.mk.injEq] at hz
  obtain ⟨hz1, hz2, hz3⟩ := hz
  have hgA : Grew w (w.alloc (.cells #[y] e')) := (Grew.refl w).alloc _
  have keep : ∀ e2 u n2 ys (w' : World), w.ownsRow W.heap.size e2 1 u n2 ys → (∀ k, u.ownBlock = some k → w'.heap[k]? = w.heap[k]?) → w'.ownsRow W.heap.size e2 1 u n2 ys := fun e2 u n2 ys w' hu hk => by
    obtain ⟨h1, h2⟩ := hu
    refine ⟨h1, ?_⟩
    rcases h2 with h2 | ⟨g, cap, cur, rfl, hB, hh, r⟩
    · exact .inl h2
    · exact .inr ⟨g, cap, cur, rfl, hB, by rw [hk g rfl]; exact hh, r⟩
  have hown' := keep _ _ _ _ (w.alloc (.cells #[y] e')) hown (fun k hk => hgA.below.block k (hown.lt k hk).2)
  refine wpList_append_own_at _ hg s x t ho W.heap.size e i0 z0 1 8 und hi hz1 hz2 hz3 hz0 (by decide) v xs.length xs hs hown' ⟨w.heap.size, 0, none⟩ 1 1 [y] hx rfl ?_ ?_ ?_ ?_ ?_ ?_
  · intro j u hj
    match j, hj with
    | 0, hj =>
      simp at hj; subst hj
      have e1 : (⟨w.heap.size, 0, none⟩ : Addr).add 0 = ⟨w.heap.size, 0, none⟩ := by simp [Addr.add]
      rw [e1, World.cell?_alloc_new]; rfl
  · intro u hu; simp at hu; subst hu; exact hy
  · simp [maxLen]; omega
  · omega
  · have := hW.below.size; simp; omega
  · intro v' w' ho2 hgr hnn hloc
    obtain ⟨oo, nn, rfl⟩ := grew_grown (hW.alloc (.cells #[y] e')) hgr (fun k hk => (hown.lt k hk).1)
    refine h v' oo nn ho2 fun e2 u n2 ys hu hap => ⟨keep _ _ _ _ _ hu fun k hk => ?_, fun k hk => ?_⟩
    · have hlt := (hu.lt k hk).2
      exact (hgr.block k (Nat.lt_of_lt_of_le hlt hgA.below.size) (fun e => hap k hk e.symm)).trans (hgA.below.block k hlt)
    · have hlt := (hu.lt k hk).2
      rcases hloc with h1 | h1
      · rw [h1]; exact hap k hk
      · rw [h1]; intro e; simp at e; omega
end
/-- The slice v of ours owns the whole numbers zs. -/
def OwnI (w : World) (B : Nat) (v : Value) (zs : List Int) : Prop := w.ownsRow B 3 1 v zs.length (zs.map (Value.int .i64))
theorem OwnI.nil (w : World) (B : Nat) : OwnI w B (.slice none 0 0) [] := ⟨by simp, .inl ⟨rfl, rfl⟩⟩
theorem OwnI.grew {w w' : World} {B : Nat} {v : Value} {zs : List Int} (h : OwnI w B v zs) (g : Grew w w') : OwnI w' B v zs := by
  obtain ⟨h0, h1⟩ := h
  refine ⟨h0, ?_⟩
  rcases h1 with h1 | ⟨gg, cap, cur, hv, hB, hh, r⟩
  · exact .inl h1
  · have hlt : gg < w.heap.size := by
      rcases Nat.lt_or_ge gg w.heap.size with h | h
      · exact h
      · rw [Array.getElem?_eq_none h] at hh; cases hh
    exact .inr ⟨gg, cap, cur, hv, hB, by rw [g.below.block gg hlt]; exact hh, r⟩
theorem OwnI.is {w : World} {B : Nat} {v : Value} {zs : List Int} (h : OwnI w B v zs) (hl : zs.length ≤ 9223372036854775807) : IS .i64 w v zs := by
  obtain ⟨_, h1⟩ := h
  rcases h1 with ⟨rfl, h1⟩ | ⟨g, cap, cur, rfl, _, hh, hn, hm, hsz, ht⟩
  · have : zs = [] := List.length_eq_zero_iff.1 h1
    subst this
    exact ⟨by simp, none, 0, rfl, fun i hi => by simp at hi⟩
  · refine ⟨hl, some ⟨g, 0, none⟩, cap, rfl, fun i hi => ⟨g, 0, rfl, ?_⟩⟩
    rw [Nat.mul_one] at ht
    have := take_getElem? (i := i) ht (by simpa using hi)
    simp only [World.cell?, hh, Nat.zero_add, Option.isSome_none, Bool.false_eq_true, if_false]
    rw [← Array.getElem?_toList, this]
    simp [List.getD_eq_getElem?_getD, hi]
end Sedge
end
section
set_option linter.unusedSimpArgs false
set_option linter.unusedVariables false
namespace Sedge
open Ieee

def p2 (k : Int) : Rat := (2 : Rat) ^ k
theorem p2_pos (k : Int) : 0 < p2 k := Rat.zpow_pos (by decide)
theorem p2_add (j k : Int) : p2 (j + k) = p2 j * p2 k := Rat.zpow_add (by decide) j k
theorem p2_zero : p2 0 = 1 := Rat.zpow_zero 2
theorem p2_one : p2 1 = 2 := Rat.zpow_one 2
theorem p2_nat (n : Nat) : p2 n = ((2 ^ n : Nat) : Rat) := by
  unfold p2; rw [Rat.zpow_natCast, Rat.natCast_pow]; rfl
theorem p2_succ (k : Int) : p2 (k + 1) = 2 * p2 k := by rw [p2_add, p2_one, Rat.mul_comm]
theorem p2_mono {j k : Int} (h : j ≤ k) : p2 j ≤ p2 k := by
  obtain ⟨n, rfl⟩ : ∃ n : Nat, k = j + n := ⟨(k - j).toNat, by omega⟩
  rw [p2_add, p2_nat]
  have h1 : (1 : Rat) ≤ ((2 ^ n : Nat) : Rat) := by
    have : 1 ≤ 2 ^ n := Nat.two_pow_pos n
    have := Rat.natCast_le_natCast.2 this
    simpa using this
  have := Rat.mul_le_mul_of_nonneg_left h1 (Rat.le_of_lt (p2_pos j))
  grind
theorem p2_lt {j k : Int} (h : j < k) : p2 j < p2 k := by
  have h1 : p2 (j + 1) ≤ p2 k := p2_mono (by omega)
  rw [p2_succ] at h1
  have := p2_pos j
  grind
theorem p2_inv (k : Int) : p2 k * p2 (-k) = 1 := by rw [← p2_add, show k + -k = 0 by omega, p2_zero]
theorem p2_sub_mul (j k : Int) : p2 (j - k) * p2 k = p2 j := by rw [← p2_add, show j - k + k = j by omega]

/-- What a word is worth (0 of what is not finite). -/
def sgn (s : Bool) : Rat := if s then -1 else 1
def dat (s : Bool) (m : Nat) (p : Int) : Rat := sgn s * ((m : Rat) * p2 p)
def val (b : Nat) : Rat := match D64.read b with
  | .number s m p => dat s m p
  | _ => 0
/-- Finite. -/
def fin (b : Nat) : Bool := match D64.read b with
  | .number .. => true
  | _ => false

theorem abs_sgn_mul (s : Bool) (x : Rat) : (sgn s * x).abs = x.abs := by
  cases s
  · simp [sgn]
  · have : sgn true * x = -x := by simp [sgn]; grind
    rw [this, Rat.abs_neg]

/-! keptP and lastP. -/
theorem lastP_ge (m : Nat) (p : Int) : -1074 ≤ lastP m p := Int.le_max_right _ _
theorem lastP_ge' (m : Nat) (p : Int) : p + m.log2 - 52 ≤ lastP m p := Int.le_max_left _ _
theorem lastP_or (m : Nat) (p : Int) : lastP m p = p + m.log2 - 52 ∨ (lastP m p = -1074 ∧ p + m.log2 - 52 ≤ -1074) := by
  unfold lastP; omega

/-- In units of 2^lastP: the numerator. -/
def numP (m : Nat) (p : Int) : Nat := m <<< (p - lastP m p).toNat
def dropP (m : Nat) (p : Int) : Nat := (lastP m p - p).toNat

theorem numP_val (m : Nat) (p : Int) : (numP m p : Rat) * p2 (lastP m p) = (m : Rat) * p2 p * (2 ^ dropP m p : Nat) := by
  unfold numP dropP
  rw [Nat.shiftLeft_eq, Rat.natCast_mul, ← p2_nat, ← p2_nat]
  have : (p2 ((p - lastP m p).toNat : Nat)) * p2 (lastP m p) = p2 p * p2 ((lastP m p - p).toNat : Nat) := by
    rw [← p2_add, ← p2_add]; congr 1; omega
  grind

/-- How far the kept digits are from the number: half a unit at most. -/
theorem kept_err (m : Nat) (p : Int) : ((keptP m p : Rat) * p2 (lastP m p) - (m : Rat) * p2 p).abs ≤ p2 (lastP m p - 1) := by
  have hlo := rne_lo (numP m p) (dropP m p)
  have hhi := rne_hi (numP m p) (dropP m p)
  have hk : rne (numP m p) (dropP m p) = keptP m p := rfl
  rw [hk] at hlo hhi
  have hv := numP_val m p
  have hg : 0 < ((2 ^ dropP m p : Nat) : Rat) := Rat.natCast_pos.2 (Nat.two_pow_pos _)
  have hlo' := Rat.natCast_le_natCast.2 hlo
  have hhi' := Rat.natCast_le_natCast.2 hhi
  simp only [Rat.natCast_add, Rat.natCast_mul] at hlo' hhi'
  have h2 : ((2 : Nat) : Rat) = 2 := rfl
  rw [h2] at hlo' hhi'
  have hu := p2_pos (lastP m p)
  have hu1 : 2 * p2 (lastP m p - 1) = p2 (lastP m p) := by rw [← p2_succ]; congr 1; omega
  generalize ((2 ^ dropP m p : Nat) : Rat) = g at *
  generalize (keptP m p : Rat) = k at *
  generalize (numP m p : Rat) = n at *
  generalize p2 (lastP m p) = u at *
  generalize (m : Rat) * p2 p = x at *
  generalize p2 (lastP m p - 1) = h at *
  -- n u = x g; 2 n ≤ 2 k g + g; 2 k g ≤ 2 n + g
  have a1 : 2 * n * u ≤ (2 * (k * g) + g) * u := Rat.mul_le_mul_of_nonneg_right hlo' (Rat.le_of_lt hu)
  have a2 : 2 * (k * g) * u ≤ (2 * n + g) * u := Rat.mul_le_mul_of_nonneg_right hhi' (Rat.le_of_lt hu)
  have b1 : g * (2 * x) ≤ g * (2 * (k * u) + u) := by grind
  have b2 : g * (2 * (k * u)) ≤ g * (2 * x + u) := by grind
  have c1 := Rat.le_of_mul_le_mul_left b1 hg
  have c2 := Rat.le_of_mul_le_mul_left b2 hg
  rcases Rat.le_total (a := 0) (b := k * u - x) with h0 | h0
  · rw [Rat.abs_of_nonneg h0]; grind
  · rw [Rat.abs_of_nonpos h0]; grind

theorem kept_le (m : Nat) (p : Int) (h : m ≠ 0) : keptP m p ≤ 2 ^ 53 := by
  -- m 2^p < 2^(log2 m + 1 + p) ≤ 2^(lastP + 53)
  have hl := (log2_spec m h).2
  have hle : numP m p ≤ 2 ^ 53 * 2 ^ dropP m p := by
    unfold numP dropP
    rw [Nat.shiftLeft_eq, ← Nat.pow_add]
    have h1 : m * 2 ^ (p - lastP m p).toNat ≤ 2 ^ (m.log2 + 1) * 2 ^ (p - lastP m p).toNat := Nat.mul_le_mul_right _ (Nat.le_of_lt hl)
    rw [← Nat.pow_add] at h1
    refine Nat.le_trans h1 (Nat.pow_le_pow_right (by decide) ?_)
    have := lastP_ge' m p
    omega
  have := rne_mono hle (dropP m p)
  rw [rne_exact] at this
  exact this
theorem kept_ge (m : Nat) (p : Int) (h : m ≠ 0) (hn : lastP m p = p + m.log2 - 52) : 2 ^ 52 ≤ keptP m p := by
  have hl := (log2_spec m h).1
  have hle : 2 ^ 52 * 2 ^ dropP m p ≤ numP m p := by
    unfold numP dropP
    rw [Nat.shiftLeft_eq, ← Nat.pow_add]
    have h1 : 2 ^ m.log2 * 2 ^ (p - lastP m p).toNat ≤ m * 2 ^ (p - lastP m p).toNat := Nat.mul_le_mul_right _ hl
    rw [← Nat.pow_add] at h1
    refine Nat.le_trans (Nat.pow_le_pow_right (by decide) ?_) h1
    omega
  have := rne_mono hle (dropP m p)
  rw [rne_exact] at this
  exact this

theorem BN_eq : BN = 2 ^ 52 := by decide +kernel
theorem IR_eq : IR = 2046 * BN + BN := by decide +kernel
theorem SW_eq : SW = 2048 * BN := by decide +kernel

/-- A word below infinity, of kept digits k at place l, is worth k 2^l. -/
theorem read_kept (s : Bool) (l : Int) (k : Nat) (hl : -1074 ≤ l) (hk : k ≤ 2 ^ 53) (hn : 2 ^ 52 ≤ k ∨ l = -1074)
    (hf : (l + 1074).toNat * BN + k < IR) :
    ∃ m q, D64.read (D64.word s ((l + 1074).toNat * BN + k)) = .number s m q ∧ (m : Rat) * p2 q = (k : Rat) * p2 l := by
  have hlt : (l + 1074).toNat * BN + k < SW := Nat.lt_trans hf (by decide +kernel)
  rw [read_word s _ hlt]
  have hb : BN = 2 ^ 52 := BN_eq
  have hb0 : 0 < BN := by decide +kernel
  by_cases h1 : (l + 1074).toNat * BN + k < BN
  · rw [if_pos h1]
    have hl0 : (l + 1074).toNat = 0 := by
      rcases Nat.eq_zero_or_pos (l + 1074).toNat with h | h
      · exact h
      · have : BN ≤ (l + 1074).toNat * BN := Nat.le_mul_of_pos_left _ h
        omega
    have : l = -1074 := by omega
    refine ⟨_, _, rfl, ?_⟩
    rw [hl0, Nat.zero_mul, Nat.zero_add, this]
  · rw [if_neg h1, if_pos hf]
    refine ⟨_, _, rfl, ?_⟩
    have h53 : (2 : Nat) ^ 53 = 2 * BN := by rw [hb]
    have hkb : BN ≤ k ∨ (l + 1074).toNat = 0 := by
      rcases hn with h | h
      · left; omega
      · right; omega
    have hk1 : BN ≤ k := by
      rcases hkb with h | h
      · exact h
      · rw [h, Nat.zero_mul, Nat.zero_add] at h1; omega
    by_cases hk2 : k < 2 * BN
    · have e1 : ((l + 1074).toNat * BN + k) % BN = k - BN := by
        rw [Nat.add_comm, Nat.add_mul_mod_self_right]
        have : k = BN + (k - BN) := by omega
        rw [this, Nat.add_mod_left, Nat.mod_eq_of_lt (by omega)]; omega
      have e2 : ((l + 1074).toNat * BN + k) / BN = (l + 1074).toNat + 1 := by
        rw [Nat.add_comm, Nat.add_mul_div_right _ _ hb0]
        have : k / BN = 1 := by
          apply Nat.div_eq_of_lt_le <;> omega
        omega
      rw [e1, e2]
      have e3 : BN + (k - BN) = k := by omega
      have e4 : (-1074 + (((l + 1074).toNat + 1 - 1 : Nat) : Int)) = l := by omega
      rw [e3, e4]
    · have hk3 : k = 2 * BN := by omega
      have e1 : ((l + 1074).toNat * BN + k) % BN = 0 := by
        rw [hk3, ← Nat.add_mul, Nat.mul_mod_left]
      have e2 : ((l + 1074).toNat * BN + k) / BN = (l + 1074).toNat + 2 := by
        rw [hk3, ← Nat.add_mul, Nat.mul_div_cancel _ hb0]
      rw [e1, e2, hk3]
      have e4 : (-1074 + (((l + 1074).toNat + 2 - 1 : Nat) : Int)) = l + 1 := by omega
      rw [e4, p2_succ, Nat.add_zero, Rat.natCast_mul]
      have h2 : ((2 : Nat) : Rat) = 2 := rfl
      rw [h2]
      grind

/-- THE NEAREST: if finite, it is within half a unit. -/
theorem nearest_err (s : Bool) (m : Nat) (p : Int) (h : m ≠ 0) (hf : fin (D64.nearest s m p) = true) :
    (val (D64.nearest s m p) - dat s m p).abs ≤ p2 (lastP m p - 1) ∧ val (D64.nearest s m p) = dat s (keptP m p) (lastP m p) := by
  rw [nearest_eq s m p h] at hf ⊢
  have hlt : (lastP m p + 1074).toNat * BN + keptP m p < IR := by
    rcases Nat.lt_or_ge ((lastP m p + 1074).toNat * BN + keptP m p) IR with h1 | h1
    · exact h1
    · rw [Nat.min_eq_right h1] at hf
      unfold fin at hf
      rw [read_word s IR (by decide +kernel), if_neg (by decide +kernel), if_neg (by decide +kernel), if_pos rfl] at hf
      cases hf
  rw [Nat.min_eq_left (Nat.le_of_lt hlt)] at hf ⊢
  have hor : 2 ^ 52 ≤ keptP m p ∨ lastP m p = -1074 := by
    rcases lastP_or m p with h1 | h1
    · exact .inl (kept_ge m p h h1)
    · exact .inr h1.1
  obtain ⟨m', q, hr, hv⟩ := read_kept s (lastP m p) (keptP m p) (lastP_ge m p) (kept_le m p h) hor hlt
  have hval : val (D64.word s ((lastP m p + 1074).toNat * BN + keptP m p)) = dat s (keptP m p) (lastP m p) := by
    unfold val
    rw [hr]
    show sgn s * (_ * _) = sgn s * (_ * _)
    rw [hv]
  refine ⟨?_, hval⟩
  rw [hval]
  unfold dat
  have : sgn s * (↑(keptP m p) * p2 (lastP m p)) - sgn s * (↑m * p2 p) = sgn s * (↑(keptP m p) * p2 (lastP m p) - ↑m * p2 p) := by grind
  rw [this, abs_sgn_mul]
  exact kept_err m p

end Sedge
end
section
set_option linter.unusedSimpArgs false
set_option linter.unusedVariables false
namespace Sedge
open Ieee

theorem read_number_or (b : Nat) : (∃ s m p, D64.read b = .number s m p) ∨ (∃ s, D64.read b = .infinity s) ∨ (∃ s t, D64.read b = .nan s t) := by
  cases h : D64.read b with
  | number s m p => exact .inl ⟨_, _, _, rfl⟩
  | infinity s => exact .inr (.inl ⟨_, rfl⟩)
  | nan s t => exact .inr (.inr ⟨_, _, rfl⟩)

theorem fin_iff (b : Nat) : fin b = true ↔ ∃ s m p, D64.read b = .number s m p := by
  unfold fin
  rcases read_number_or b with ⟨s, m, p, h⟩ | ⟨s, h⟩ | ⟨s, t, h⟩ <;> simp [h]
theorem val_of {b : Nat} {s : Bool} {m : Nat} {p : Int} (h : D64.read b = .number s m p) : val b = dat s m p := by
  unfold val; rw [h]

theorem fin_of_read {b : Nat} {s : Bool} {m : Nat} {p : Int} (h : D64.read b = .number s m p) : fin b = true := (fin_iff b).2 ⟨_, _, _, h⟩
theorem fin_notnan {b : Nat} (h : fin b = true) : isNan b = false := by
  obtain ⟨s, m, p, h⟩ := (fin_iff b).1 h
  unfold isNan; rw [h]; rfl
theorem fin_QN : fin QN = false := by decide +kernel
theorem fin_inf (s : Bool) : fin (D64.write (.infinity s)) = false := by cases s <;> decide +kernel
theorem fin_canon (b : Nat) : fin (canon b) = fin b := by
  cases h : isNan b
  · rw [canon_not h]
  · rw [canon_nan h, fin_QN]
    cases hf : fin b
    · rfl
    · rw [fin_notnan hf] at h; cases h
theorem val_canon {b : Nat} (h : fin b = true) : val (canon b) = val b := by rw [canon_not (fin_notnan h)]

theorem dat_zero (s : Bool) (p : Int) : dat s 0 p = 0 := by unfold dat; simp
theorem word_zero (s : Bool) : val (D64.word s 0) = 0 ∧ fin (D64.word s 0) = true := by
  have h : D64.read (D64.word s 0) = .number s 0 (-1074) := by
    rw [read_word s 0 (by decide +kernel), if_pos (by decide +kernel)]
  exact ⟨by rw [val_of h, dat_zero], fin_of_read h⟩

def U : Rat := p2 (-53)
def ETA : Rat := p2 (-1075)
theorem U_pos : 0 < U := p2_pos _
theorem ETA_pos : 0 < ETA := p2_pos _

theorem dat_abs (s : Bool) (m : Nat) (p : Int) : (dat s m p).abs = (m : Rat) * p2 p := by
  unfold dat
  rw [abs_sgn_mul, Rat.abs_of_nonneg (Rat.mul_nonneg Rat.natCast_nonneg (Rat.le_of_lt (p2_pos p)))]

theorem half_unit (m : Nat) (p : Int) (h : m ≠ 0) : p2 (lastP m p - 1) ≤ U * ((m : Rat) * p2 p) + ETA := by
  have hm : 0 ≤ (m : Rat) * p2 p := Rat.mul_nonneg Rat.natCast_nonneg (Rat.le_of_lt (p2_pos p))
  rcases lastP_or m p with h1 | h1
  · rw [h1]
    have h2 : p2 (p + m.log2 - 52 - 1) = U * (p2 p * p2 (m.log2 : Nat)) := by
      unfold U; rw [← p2_add, ← p2_add]; congr 1; omega
    rw [h2]
    have h3 : p2 (m.log2 : Nat) ≤ (m : Rat) := by rw [p2_nat]; exact Rat.natCast_le_natCast.2 (log2_spec m h).1
    have h4 := Rat.mul_le_mul_of_nonneg_left h3 (Rat.le_of_lt (p2_pos p))
    have h5 := Rat.mul_le_mul_of_nonneg_left h4 (Rat.le_of_lt U_pos)
    have := ETA_pos
    grind
  · rw [h1.1]
    have := Rat.mul_nonneg (Rat.le_of_lt U_pos) hm
    show ETA ≤ _
    grind

/-- WHAT IS WRITTEN, IF FINITE, IS CLOSE TO WHAT WAS MEANT. -/
theorem write_err (s : Bool) (m : Nat) (p : Int) (hf : fin (D64.write (.number s m p)) = true) :
    (val (D64.write (.number s m p)) - dat s m p).abs ≤ U * (dat s m p).abs + ETA := by
  by_cases h : m = 0
  · subst h
    have e : D64.write (.number s 0 p) = D64.word s 0 := by
      show D64.nearest s 0 p = _; unfold Format.nearest; rw [if_pos rfl]
    rw [e, (word_zero s).1, dat_zero]
    have := ETA_pos
    have e1 : ((0 : Rat) - 0).abs = 0 := by decide +kernel
    have e2 : (0 : Rat).abs = 0 := by decide +kernel
    rw [e1, e2]
    grind
  · have h1 := (nearest_err s m p h hf).1
    have h2 := half_unit m p h
    rw [dat_abs]
    exact Rat.le_trans h1 h2

/-! SUMS -/
theorem signed_val (s : Bool) (m k : Nat) (p : Int) : ((signed s m k : Int) : Rat) * p2 p = dat s m (p + k) := by
  unfold signed dat
  cases s
  · simp only [Bool.false_eq_true, if_false, sgn]
    rw [Nat.shiftLeft_eq, Rat.intCast_natCast, Rat.natCast_mul, ← p2_nat, p2_add]
    grind
  · simp only [if_true, sgn]
    rw [Nat.shiftLeft_eq, Rat.intCast_neg, Rat.intCast_natCast, Rat.natCast_mul, ← p2_nat, p2_add]
    grind

theorem natAbs_val (z : Int) (b : Bool) (hb : z ≠ 0 → b = decide (z < 0)) (p : Int) : dat b z.natAbs p = (z : Rat) * p2 p := by
  unfold dat
  rcases Int.lt_trichotomy z 0 with h | h | h
  · rw [hb (by omega), decide_eq_true h]
    have e : (z : Rat) = -((z.natAbs : Nat) : Rat) := by
      have : z = -((z.natAbs : Nat) : Int) := by omega
      rw [← Rat.intCast_natCast, ← Rat.intCast_neg, ← this]
    rw [e]; simp only [sgn, if_true]; grind
  · subst h; simp
  · rw [hb (by omega), decide_eq_false (by omega)]
    have e : (z : Rat) = ((z.natAbs : Nat) : Rat) := by
      have : z = ((z.natAbs : Nat) : Int) := by omega
      rw [← Rat.intCast_natCast, ← this]
    rw [e]; simp only [sgn, Bool.false_eq_true, if_false]; grind

theorem sum_val {s t : Bool} {m n : Nat} {i j : Int} : ∃ c z b, (Datum.number s m i).sum (.number t n j) = some (.number c z b) ∧ dat c z b = dat s m i + dat t n j := by
  refine ⟨_, _, _, rfl, ?_⟩
  rw [natAbs_val _ _ (by intro h; simp [h])]
  rw [Rat.intCast_add, Rat.add_mul, signed_val, signed_val]
  congr 2 <;> omega

theorem fin_getD {o : Option Datum} (h : fin ((o.map D64.write).getD QN) = true) (hn : ∀ d, o = some d → d.isNaN = false) : ∃ s m p, o = some (.number s m p) := by
  cases o with
  | none => simp only [Option.map, Option.getD, fin_QN] at h; cases h
  | some d =>
    cases d with
    | number s m p => exact ⟨s, m, p, rfl⟩
    | infinity s => simp only [Option.map, Option.getD, fin_inf] at h; cases h
    | nan s t => have := hn _ rfl; cases this
theorem sum_number {d e : Datum} {s : Bool} {m : Nat} {p : Int} (h : d.sum e = some (.number s m p)) : (∃ a b c, d = .number a b c) ∧ (∃ a b c, e = .number a b c) := by
  cases d <;> cases e <;> simp only [Datum.sum] at h <;> first | exact ⟨⟨_, _, _, rfl⟩, ⟨_, _, _, rfl⟩⟩ | cases h | (split at h <;> cases h)
theorem product_number {d e : Datum} {s : Bool} {m : Nat} {p : Int} (h : d.product e = some (.number s m p)) : (∃ a b c, d = .number a b c) ∧ (∃ a b c, e = .number a b c) := by
  cases d <;> cases e <;> simp only [Datum.product] at h <;> first | exact ⟨⟨_, _, _, rfl⟩, ⟨_, _, _, rfl⟩⟩ | cases h | (split at h <;> cases h)
theorem opposite_number {d : Datum} {s : Bool} {m : Nat} {p : Int} (h : d.opposite = .number s m p) : ∃ a b c, d = .number a b c := by
  cases d <;> simp only [Datum.opposite] at h <;> first | exact ⟨_, _, _, rfl⟩ | cases h

theorem fadd_fin {x y : Nat} (h : fin (fadd x y) = true) : fin x = true ∧ fin y = true := by
  obtain ⟨s, m, p, ho⟩ := fin_getD h (fun d hd => sum_notnan hd)
  obtain ⟨h1, h2⟩ := sum_number ho
  exact ⟨(fin_iff _).2 h1, (fin_iff _).2 h2⟩

theorem fadd_read {x y : Nat} (hx : fin x = true) (hy : fin y = true) : ∃ c z b, fadd x y = D64.write (.number c z b) ∧ dat c z b = val x + val y := by
  obtain ⟨s, m, p, hx⟩ := (fin_iff x).1 hx
  obtain ⟨s', m', p', hy⟩ := (fin_iff y).1 hy
  obtain ⟨c, z, b, h1, h2⟩ := sum_val (s := s) (t := s') (m := m) (n := m') (i := p) (j := p')
  refine ⟨c, z, b, ?_, ?_⟩
  · unfold fadd Format.add; rw [hx, hy, h1]; rfl
  · rw [h2, val_of hx, val_of hy]

theorem fadd_err {x y : Nat} (h : fin (fadd x y) = true) : (val (fadd x y) - (val x + val y)).abs ≤ U * (val x + val y).abs + ETA := by
  obtain ⟨hx, hy⟩ := fadd_fin h
  obtain ⟨c, z, b, h1, h2⟩ := fadd_read hx hy
  rw [h1] at h ⊢
  rw [← h2]
  exact write_err c z b h

/-! PRODUCTS -/
theorem natCast_mul' (m n : Nat) : ((m * n : Nat) : Rat) = (m : Rat) * n := Rat.natCast_mul m n
theorem sgn_xor (s t : Bool) : sgn (s ^^ t) = sgn s * sgn t := by cases s <;> cases t <;> decide +kernel
theorem product_val (s t : Bool) (m n : Nat) (i j : Int) : dat (s ^^ t) (m * n) (i + j) = dat s m i * dat t n j := by
  unfold dat
  rw [natCast_mul', p2_add, sgn_xor]
  grind

theorem fmul_fin {x y : Nat} (h : fin (fmul x y) = true) : fin x = true ∧ fin y = true := by
  obtain ⟨s, m, p, ho⟩ := fin_getD h (fun d hd => product_notnan hd)
  obtain ⟨h1, h2⟩ := product_number ho
  exact ⟨(fin_iff _).2 h1, (fin_iff _).2 h2⟩

theorem fmul_read {x y : Nat} (hx : fin x = true) (hy : fin y = true) : ∃ c z b, fmul x y = D64.write (.number c z b) ∧ dat c z b = val x * val y := by
  obtain ⟨s, m, p, hx⟩ := (fin_iff x).1 hx
  obtain ⟨s', m', p', hy⟩ := (fin_iff y).1 hy
  refine ⟨s ^^ s', m * m', p + p', ?_, ?_⟩
  · unfold fmul Format.mul; rw [hx, hy]; rfl
  · rw [product_val, val_of hx, val_of hy]

theorem fmul_err {x y : Nat} (h : fin (fmul x y) = true) : (val (fmul x y) - val x * val y).abs ≤ U * (val x * val y).abs + ETA := by
  obtain ⟨hx, hy⟩ := fmul_fin h
  obtain ⟨c, z, b, h1, h2⟩ := fmul_read hx hy
  rw [h1] at h ⊢
  rw [← h2]
  exact write_err c z b h

/-! DIFFERENCES: y's sign turned. -/
theorem dat_not (s : Bool) (m : Nat) (p : Int) : dat (!s) m p = - dat s m p := by
  unfold dat
  cases s <;> simp only [sgn, Bool.not_true, Bool.not_false, Bool.false_eq_true, if_true, if_false] <;> grind
theorem fsub_fin {x y : Nat} (h : fin (fsub x y) = true) : fin x = true ∧ fin y = true := by
  obtain ⟨s, m, p, ho⟩ := fin_getD h (fun d hd => sum_notnan hd)
  obtain ⟨h1, a, b, c, h2⟩ := sum_number ho
  exact ⟨(fin_iff _).2 h1, (fin_iff _).2 (opposite_number h2)⟩
theorem fsub_read {x y : Nat} (hx : fin x = true) (hy : fin y = true) : ∃ c z b, fsub x y = D64.write (.number c z b) ∧ dat c z b = val x - val y := by
  obtain ⟨s, m, p, hx⟩ := (fin_iff x).1 hx
  obtain ⟨s', m', p', hy⟩ := (fin_iff y).1 hy
  obtain ⟨c, z, b, h1, h2⟩ := sum_val (s := s) (t := !s') (m := m) (n := m') (i := p) (j := p')
  refine ⟨c, z, b, ?_, ?_⟩
  · unfold fsub Format.sub; rw [hx, hy]; simp only [Datum.opposite]; rw [h1]; rfl
  · rw [h2, val_of hx, val_of hy, dat_not]; grind
theorem fsub_err {x y : Nat} (h : fin (fsub x y) = true) : (val (fsub x y) - (val x - val y)).abs ≤ U * (val x - val y).abs + ETA := by
  obtain ⟨hx, hy⟩ := fsub_fin h
  obtain ⟨c, z, b, h1, h2⟩ := fsub_read hx hy
  rw [h1] at h ⊢
  rw [← h2]
  exact write_err c z b h

end Sedge
end
section
/-
  Plain laws on the reference's digits: lists of 16 bits, what they are worth.
-/
set_option linter.unusedSimpArgs false
set_option linter.unusedVariables false
namespace Sedge
open Ieee

def dv : List Nat → Nat
  | [] => 0
  | d :: l => d + 65536 * dv l
theorem dv_append : ∀ (a b : List Nat), dv (a ++ b) = dv a + 65536 ^ a.length * dv b
  | [], b => by simp [dv]
  | d :: a, b => by
    show d + 65536 * dv (a ++ b) = d + 65536 * dv a + 65536 ^ (a.length + 1) * dv b
    rw [dv_append a b, Nat.pow_succ, Nat.mul_add, Nat.mul_comm (65536 ^ a.length) 65536, Nat.mul_assoc]; omega
def Dg (l : List Nat) : Prop := ∀ d ∈ l, d < 65536
theorem Dg.nil : Dg [] := fun d h => by cases h
theorem Dg.tail {d : Nat} {l : List Nat} (h : Dg (d :: l)) : Dg l := fun x hx => h x (List.mem_cons_of_mem _ hx)
theorem Dg.append {a b : List Nat} (h : Dg a) (k : Dg b) : Dg (a ++ b) := fun x hx => by
  rcases List.mem_append.1 hx with hx | hx
  · exact h x hx
  · exact k x hx
theorem Dg.one {d : Nat} (h : d < 65536) : Dg [d] := fun x hx => by simp at hx; omega
theorem Dg.get {l : List Nat} (h : Dg l) (i : Nat) : l.getD i 0 < 65536 := by
  rw [List.getD_eq_getElem?_getD]
  by_cases hi : i < l.length
  · rw [List.getElem?_eq_getElem hi]; exact h _ (List.getElem_mem hi)
  · rw [List.getElem?_eq_none (by omega)]; decide
theorem Dg.set {l : List Nat} (h : Dg l) (i : Nat) {x : Nat} (hx : x < 65536) : Dg (l.set i x) := fun d hd => by
  rcases List.mem_or_eq_of_mem_set hd with hd | hd
  · exact h d hd
  · omega
theorem Dg.replicate (n : Nat) : Dg (List.replicate n 0) := fun d hd => by rw [List.eq_of_mem_replicate hd]; decide
theorem Dg.dropLast {l : List Nat} (h : Dg l) : Dg l.dropLast := fun d hd => h d (List.dropLast_subset l hd)
theorem dv_lt : ∀ {l : List Nat}, Dg l → dv l < 65536 ^ l.length
  | [], _ => by simp [dv]
  | d :: l, h => by
    have h1 := dv_lt h.tail
    have h2 := h d (List.mem_cons_self ..)
    show d + 65536 * dv l < 65536 ^ (l.length + 1)
    rw [Nat.pow_succ]; omega
theorem dv_replicate : ∀ n, dv (List.replicate n 0) = 0
  | 0 => rfl
  | n + 1 => by show 0 + 65536 * dv (List.replicate n 0) = 0; rw [dv_replicate n]
theorem dv_set : ∀ {l : List Nat} {i : Nat}, i < l.length → ∀ x, dv (l.set i x) + l.getD i 0 * 65536 ^ i = dv l + x * 65536 ^ i
  | [], i, h, x => by simp at h
  | d :: l, 0, h, x => by simp [dv]; omega
  | d :: l, i + 1, h, x => by
    have := dv_set (l := l) (i := i) (by simpa using h) x
    show d + 65536 * dv (l.set i x) + l.getD i 0 * 65536 ^ (i + 1) = d + 65536 * dv l + x * 65536 ^ (i + 1)
    rw [Nat.pow_succ, ← Nat.mul_assoc, ← Nat.mul_assoc]; omega
theorem dv_get_le : ∀ (l : List Nat) (i : Nat), l.getD i 0 * 65536 ^ i ≤ dv l
  | [], i => by simp
  | d :: l, 0 => by simp [dv]
  | d :: l, i + 1 => by
    have := dv_get_le l i
    show l.getD i 0 * 65536 ^ (i + 1) ≤ d + 65536 * dv l
    rw [Nat.pow_succ, ← Nat.mul_assoc]; omega
theorem dv_pos {l : List Nat} (h : l ≠ []) (hl : l.getLast h ≠ 0) : dv l ≠ 0 := by
  intro h0
  have h1 := dv_get_le l (l.length - 1)
  rw [h0] at h1
  have hlen : 0 < l.length := List.length_pos_iff.2 h
  have e : l.getD (l.length - 1) 0 = l.getLast h := by
    rw [List.getLast_eq_getElem, List.getD_eq_getElem?_getD, List.getElem?_eq_getElem (by omega)]; rfl
  rw [e] at h1
  have : 0 < 65536 ^ (l.length - 1) := Nat.pow_pos (by decide)
  have h2 : 0 < l.getLast h * 65536 ^ (l.length - 1) := Nat.mul_pos (by omega) this
  omega
theorem dv_nil_or {l : List Nat} (h : ∀ h : l ≠ [], l.getLast h ≠ 0) (h0 : dv l = 0) : l = [] := Decidable.byContradiction fun hn => dv_pos hn (h hn) h0
theorem dv_dropLast {l : List Nat} (h : l ≠ []) (hl : l.getLast h = 0) : dv l.dropLast = dv l := by
  have := dv_append l.dropLast [l.getLast h]
  rw [List.dropLast_concat_getLast] at this
  rw [this, hl]; simp [dv]

/-- The sum of so many digits. -/
def ds (f : Nat → Nat) : Nat → Nat
  | 0 => 0
  | k + 1 => ds f k + f k * 65536 ^ k
theorem ds_congr {f g : Nat → Nat} : ∀ {n : Nat}, (∀ k, k < n → f k = g k) → ds f n = ds g n
  | 0, _ => rfl
  | n + 1, h => by
    unfold ds
    rw [ds_congr (fun k hk => h k (by omega)), h n (by omega)]
theorem ds_lt {f : Nat → Nat} (h : ∀ k, f k < 65536) : ∀ n, ds f n < 65536 ^ n
  | 0 => by simp [ds]
  | n + 1 => by
    have h1 := ds_lt h n
    have h2 := h n
    unfold ds
    rw [Nat.pow_succ]
    have : f n * 65536 ^ n ≤ 65535 * 65536 ^ n := Nat.mul_le_mul_right _ (by omega)
    omega
theorem ds_succ' (f : Nat → Nat) : ∀ n, ds f (n + 1) = f 0 + 65536 * ds (fun k => f (k + 1)) n
  | 0 => by simp [ds]
  | n + 1 => by
    have := ds_succ' f n
    show ds f (n + 1) + f (n + 1) * 65536 ^ (n + 1) = f 0 + 65536 * (ds (fun k => f (k + 1)) n + f (n + 1) * 65536 ^ n)
    rw [this, Nat.pow_succ, Nat.mul_add, Nat.mul_left_comm 65536, Nat.mul_comm 65536 (65536 ^ n)]
    omega
theorem ds_list : ∀ (l : List Nat), ds (fun k => l.getD k 0) l.length = dv l
  | [] => rfl
  | d :: l => by
    show ds _ (l.length + 1) = _
    rw [ds_succ']
    have := ds_list l
    show d + 65536 * ds (fun k => l.getD k 0) l.length = _
    rw [this]; rfl
theorem ds_zero {f : Nat → Nat} {n : Nat} (h : ∀ k, k < n → f k = 0) : ds f n = 0 := by
  rw [ds_congr h]
  clear h
  induction n with
  | zero => rfl
  | succ n ih => unfold ds; rw [ih]; simp
theorem ds_add (f : Nat → Nat) (a : Nat) : ∀ b, ds f (a + b) = ds f a + 65536 ^ a * ds (fun k => f (a + k)) b
  | 0 => by simp [ds]
  | b + 1 => by
    show ds f (a + b) + f (a + b) * 65536 ^ (a + b) = ds f a + 65536 ^ a * (ds (fun k => f (a + k)) b + f (a + b) * 65536 ^ b)
    rw [ds_add f a b, Nat.mul_add, Nat.pow_add, Nat.mul_left_comm]; omega
/-- The digit of a place. -/
def digAt (l : List Nat) (E p : Int) : Nat := if p < E ∨ E + l.length ≤ p then 0 else l.getD (p - E).toNat 0
theorem digAt_lt {l : List Nat} (h : Dg l) (E p : Int) : digAt l E p < 65536 := by
  unfold digAt; split
  · decide
  · exact h.get _
theorem ds_digAt {l : List Nat} {E F : Int} {n : Nat} (h1 : F ≤ E) (h2 : E + l.length ≤ F + n) : ds (fun k => digAt l E (F + k)) n = 65536 ^ (E - F).toNat * dv l := by
  obtain ⟨a, ha⟩ : ∃ a : Nat, a = (E - F).toNat := ⟨_, rfl⟩
  obtain ⟨c, hc⟩ : ∃ c : Nat, c = n - a - l.length := ⟨_, rfl⟩
  have en : n = a + (l.length + c) := by omega
  rw [en, ds_add, ds_add, ← ha]
  rw [ds_zero (f := fun k => digAt l E (F + k)) (n := a) (fun k hk => by unfold digAt; rw [if_pos (by omega)])]
  rw [ds_zero (n := c) (fun k hk => by show digAt l E (F + _) = 0; unfold digAt; rw [if_pos (by omega)])]
  rw [ds_congr (g := fun k => l.getD k 0) (n := l.length) (fun k hk => by
    show digAt l E (F + ((a + k : Nat) : Int)) = _
    unfold digAt; rw [if_neg (by omega)]; congr 1; omega)]
  rw [ds_list]; simp
theorem ds_digAt_nil {E F : Int} {n : Nat} : ds (fun k => digAt [] E (F + k)) n = 0 := ds_zero fun k _ => by
  unfold digAt; split <;> simp
theorem p2_pow16 (n : Nat) : ((65536 ^ n : Nat) : Rat) = p2 (16 * n) := by
  have : (65536 : Nat) ^ n = 2 ^ (16 * n) := by rw [Nat.pow_mul]
  rw [this, ← p2_nat]; congr 1
/-- What is worth the digits of places from F on. -/
theorem ds_worth {l : List Nat} {E F : Int} {n : Nat} (h : l = [] ∨ F ≤ E ∧ E + l.length ≤ F + n) : (ds (fun k => digAt l E (F + k)) n : Rat) * p2 (16 * F) = (dv l : Rat) * p2 (16 * E) := by
  rcases h with rfl | ⟨h1, h2⟩
  · rw [ds_digAt_nil]; simp [dv]
  · rw [ds_digAt h1 h2, Rat.natCast_mul, p2_pow16]
    have : p2 (16 * E) = p2 (16 * ((E - F).toNat : Nat)) * p2 (16 * F) := by rw [← p2_add]; congr 1; omega
    rw [this]; grind
/-- The highest digit that differs decides. -/
theorem ds_less {f g : Nat → Nat} (hf : ∀ k, f k < 65536) {p n : Nat} (hp : p < n) (h : f p < g p) (he : ∀ k, p < k → k < n → f k = g k) : ds f n < ds g n := by
  obtain ⟨c, rfl⟩ : ∃ c, n = p + 1 + c := ⟨n - (p + 1), by omega⟩
  rw [ds_add f (p + 1) c, ds_add g (p + 1) c, ds_congr (f := fun k => f (p + 1 + k)) (g := fun k => g (p + 1 + k)) (fun k hk => he _ (by omega) (by omega))]
  refine Nat.add_lt_add_right ?_ _
  unfold ds
  have h1 := ds_lt hf p
  have h2 : (f p + 1) * 65536 ^ p ≤ g p * 65536 ^ p := Nat.mul_le_mul_right _ h
  rw [Nat.add_mul] at h2
  omega
/-- One step of a product's row. -/
theorem mul_step {l : List Nat} {i c a b : Nat} (hi : i < l.length) :
    dv (l.set i ((c + a * b + l.getD i 0) % 65536)) + (c + a * b + l.getD i 0) / 65536 * 65536 ^ (i + 1) = dv l + c * 65536 ^ i + a * b * 65536 ^ i := by
  have h1 := dv_set hi ((c + a * b + l.getD i 0) % 65536)
  have h2 := Nat.div_add_mod (c + a * b + l.getD i 0) 65536
  generalize (c + a * b + l.getD i 0) / 65536 = q at *
  generalize (c + a * b + l.getD i 0) % 65536 = m at *
  rw [Nat.pow_succ]
  generalize 65536 ^ i = P at *
  have h3 : (65536 * q + m) * P = (c + a * b + l.getD i 0) * P := by rw [h2]
  rw [Nat.add_mul, Nat.add_mul, Nat.add_mul, Nat.mul_assoc] at h3
  rw [Nat.mul_comm P 65536, Nat.mul_left_comm q]
  omega
theorem mul_carry {c a b d : Nat} (hc : c < 65536) (ha : a < 65536) (hb : b < 65536) (hd : d < 65536) : c + a * b + d < 4294967296 ∧ (c + a * b + d) / 65536 < 65536 := by
  have : a * b ≤ 65535 * 65535 := Nat.mul_le_mul (by omega) (by omega)
  omega
/-- One step of a shift. -/
theorem shift_step {l : List Nat} {i d r : Nat} (hi : i + 1 < l.length) (hl : Dg l) (hd : d < 65536) (hr : r < 16) (h0 : l.getD i 0 < 2 ^ r) (hz : ∀ k, i < k → l.getD k 0 = 0) :
    dv ((l.set i (l.getD i 0 + d * 2 ^ r % 65536)).set (i + 1) (d * 2 ^ r / 65536)) = dv l + d * 2 ^ r * 65536 ^ i ∧ Dg ((l.set i (l.getD i 0 + d * 2 ^ r % 65536)).set (i + 1) (d * 2 ^ r / 65536)) ∧
    ((l.set i (l.getD i 0 + d * 2 ^ r % 65536)).set (i + 1) (d * 2 ^ r / 65536)).getD (i + 1) 0 < 2 ^ r ∧ ∀ k, i + 1 < k → ((l.set i (l.getD i 0 + d * 2 ^ r % 65536)).set (i + 1) (d * 2 ^ r / 65536)).getD k 0 = 0 := by
  have e : 2 ^ r * 2 ^ (16 - r) = 65536 := by rw [← Nat.pow_add, show r + (16 - r) = 16 by omega]
  have hg : 0 < 2 ^ r := Nat.two_pow_pos r
  have hh : 0 < 2 ^ (16 - r) := Nat.two_pow_pos _
  have hm : l.getD i 0 + d * 2 ^ r % 65536 < 65536 := by
    have h1 : d * 2 ^ r % 65536 = 2 ^ r * (d % 2 ^ (16 - r)) := by rw [← e, Nat.mul_comm d, Nat.mul_mod_mul_left]
    have h2 := Nat.mod_lt d hh
    have h3 : 2 ^ r * (d % 2 ^ (16 - r) + 1) ≤ 2 ^ r * 2 ^ (16 - r) := Nat.mul_le_mul_left _ h2
    rw [Nat.mul_add, e] at h3
    omega
  have hq : d * 2 ^ r / 65536 < 2 ^ r := by
    rw [Nat.div_lt_iff_lt_mul (by decide), Nat.mul_comm]
    exact Nat.mul_lt_mul_of_pos_left hd hg
  have hr2 : 2 ^ r ≤ 32768 := by
    have := Nat.pow_le_pow_right (n := 2) (by decide) (show r ≤ 15 by omega)
    omega
  refine ⟨?_, (hl.set _ hm).set _ (by omega), ?_, ?_⟩
  · have s1 := dv_set (l := l) (i := i) (by omega) (l.getD i 0 + d * 2 ^ r % 65536)
    have s2 := dv_set (l := l.set i (l.getD i 0 + d * 2 ^ r % 65536)) (i := i + 1) (by simpa using hi) (d * 2 ^ r / 65536)
    have e2 : (l.set i (l.getD i 0 + d * 2 ^ r % 65536)).getD (i + 1) 0 = 0 := by
      rw [List.getD_eq_getElem?_getD, List.getElem?_set_ne (by omega), ← List.getD_eq_getElem?_getD]
      exact hz _ (by omega)
    rw [e2] at s2
    have hdm := Nat.div_add_mod (d * 2 ^ r) 65536
    generalize d * 2 ^ r / 65536 = q at *
    generalize d * 2 ^ r % 65536 = m at *
    generalize d * 2 ^ r = T at *
    rw [Nat.pow_succ] at s2
    subst hdm
    rw [Nat.add_mul, Nat.mul_assoc, Nat.mul_left_comm]
    rw [Nat.add_mul] at s1
    rw [Nat.mul_comm (65536 ^ i) 65536, Nat.mul_left_comm q] at s2
    rw [Nat.mul_left_comm q] 
    omega
  · rw [List.getD_eq_getElem?_getD, List.getElem?_set, if_pos rfl, if_pos (by simpa using hi)]
    exact hq
  · intro k hk
    rw [List.getD_eq_getElem?_getD, List.getElem?_set_ne (by omega), List.getElem?_set_ne (by omega), ← List.getD_eq_getElem?_getD]
    exact hz _ (by omega)
end Sedge
end
section
/-
  Slices of digits: how they read; blocks of them that may be written; appends, make.
-/
set_option linter.unusedSimpArgs false
set_option linter.unusedVariables false
namespace Sedge
open Go Go.RowKit

theorem Grew.same_o {X : World} {o : Array Obj} {n n' : Nat} : Grew (Sedge.ext X o n) (Sedge.ext X o n') := ⟨#[], n', by simp⟩
theorem Grew.app_o {X : World} {o o' : Array Obj} {n n' : Nat} : Grew (Sedge.ext X o n) (Sedge.ext X (o ++ o') n') := ⟨o', n', by simp⟩
/-- The slice v reads, in w, as the digits l. -/
def NS (w : World) (v : Value) (l : List Nat) : Prop :=
  ∃ a cap, v = .slice a l.length cap ∧ l.length ≤ cap ∧ ∀ i, i < l.length → ∃ blk o, a = some ⟨blk, o, none⟩ ∧ w.cell? ⟨blk, o + i, none⟩ = some (.int .i64 (l.getD i 0 : Nat))
theorem NS.shape {w : World} {v : Value} {l : List Nat} (h : NS w v l) : ∃ a cap, v = .slice a l.length cap := by
  obtain ⟨a, cap, rfl, _⟩ := h; exact ⟨a, cap, rfl⟩
theorem NS.at {w : World} {a : Option Addr} {n cap : Nat} {l : List Nat} (h : NS w (.slice a n cap) l) : n = l.length ∧ n ≤ cap ∧ (0 < l.length → ∃ blk o, a = some ⟨blk, o, none⟩ ∧ blk < w.heap.size ∧
      ∀ i, i < l.length → w.cell? ⟨blk, o + i, none⟩ = some (.int .i64 (l.getD i 0 : Nat))) := by
  obtain ⟨a', cap', e, h0, hc⟩ := h
  cases e
  refine ⟨rfl, h0, fun hn => ?_⟩
  obtain ⟨blk, o, rfl, h1⟩ := hc 0 hn
  refine ⟨blk, o, rfl, World.block_lt_of_cell? w _ h1, fun i hi => ?_⟩
  obtain ⟨blk', o', he, h1'⟩ := hc i hi
  cases he
  exact h1'
theorem NS.open {w : World} {v : Value} {l : List Nat} (h : NS w v l) (hn : 0 < l.length) :
    ∃ blk o cap, v = .slice (some ⟨blk, o, none⟩) l.length cap ∧ blk < w.heap.size ∧ l.length ≤ cap ∧
      ∀ i, i < l.length → w.cell? ⟨blk, o + i, none⟩ = some (.int .i64 (l.getD i 0 : Nat)) := by
  obtain ⟨a, cap, rfl⟩ := h.shape
  obtain ⟨blk, o, rfl, h1, h2⟩ := h.at.2.2 hn
  exact ⟨blk, o, cap, rfl, h1, h.at.2.1, h2⟩
theorem NS.same {w w' : World} {v : Value} {l : List Nat} (h : NS w v l) (hs : ∀ a : Addr, a.block < w.heap.size → w'.cell? a = w.cell? a) : NS w' v l := by
  obtain ⟨a, cap, hv, h0, hc⟩ := h
  refine ⟨a, cap, hv, h0, fun i hi => ?_⟩
  obtain ⟨blk, o, he, h1⟩ := hc i hi
  exact ⟨blk, o, he, by rw [hs _ (World.block_lt_of_cell? w _ h1)]; exact h1⟩
theorem NS.below {w w' : World} {v : Value} {l : List Nat} (h : NS w v l) (hb : Below w.heap.size w w') : NS w' v l := h.same fun _ ha => hb.cell ha
theorem NS.grew {w w' : World} {v : Value} {l : List Nat} (h : NS w v l) (g : Grew w w') : NS w' v l := h.below g.below
theorem NS.ext {w : World} {v : Value} {l : List Nat} (h : NS w v l) (o : Array Obj) (n : Nat) : NS (ext w o n) v l := h.grew ⟨_, _, rfl⟩
theorem NS.alloc {w : World} {v : Value} {l : List Nat} (h : NS w v l) (o : Obj) : NS (w.alloc o) v l := h.grew ((Grew.refl _).alloc o)
theorem NS.nil (w : World) : NS w (.slice none 0 0) [] := ⟨none, 0, rfl, Nat.le_refl _, fun i hi => by simp at hi⟩
/-- Without the first. -/
theorem NS.tail {w : World} {blk o n cap d : Nat} {l : List Nat} (h : NS w (.slice (some ⟨blk, o, none⟩) n cap) (d :: l)) : NS w (.slice (some ⟨blk, o + 1, none⟩) (n - 1) (cap - 1)) l := by
  obtain ⟨a, c, e, h0, hc⟩ := h
  cases e
  refine ⟨_, _, rfl, by simp at h0; omega, fun i hi => ?_⟩
  obtain ⟨blk', o', he, h1⟩ := hc (i + 1) (by simp; omega)
  cases he
  exact ⟨blk, o + 1, rfl, by rw [show o + 1 + i = o + (i + 1) by omega]; exact h1⟩
theorem NS.tail' {w : World} {blk o n cap d : Nat} {l : List Nat} (h : NS w (.slice (some ⟨blk, o, none⟩) n cap) (d :: l)) : NS w (.slice (if cap = 1 then some ⟨blk, o, none⟩ else some ⟨blk, o + 1, none⟩) l.length (cap - 1)) l := by
  have hn := h.at.1
  have hc := h.at.2.1
  have e : n - 1 = l.length := by rw [hn]; simp
  have h1 := h.tail
  rw [e] at h1
  simp at hn
  by_cases h0 : cap = 1
  · rw [if_pos h0]
    have : l = [] := List.length_eq_zero_iff.1 (by omega)
    subst this
    exact ⟨_, _, rfl, Nat.zero_le _, fun i hi => by simp at hi⟩
  · rw [if_neg h0]; exact h1
theorem NS.dropLast {w : World} {a : Option Addr} {n cap : Nat} {l : List Nat} (h : NS w (.slice a n cap) l) : NS w (.slice a (n - 1) cap) l.dropLast := by
  obtain ⟨a', c, e, h0, hc⟩ := h
  cases e
  refine ⟨a, cap, by simp, by simp; omega, fun i hi => ?_⟩
  have hi' : i < l.length - 1 := by simpa using hi
  obtain ⟨blk', o', he, h1⟩ := hc i (by omega)
  refine ⟨blk', o', he, ?_⟩
  rw [h1]
  congr 2
  rw [List.getD_eq_getElem?_getD, List.getD_eq_getElem?_getD, List.getElem?_dropLast, if_pos hi']

/-- The cells of digits. -/
def ia (l : List Nat) : Array Value := (l.map fun d : Nat => Value.int .i64 d).toArray
@[simp] theorem ia_size (l : List Nat) : (ia l).size = l.length := by simp [ia]
theorem ia_get (l : List Nat) {i : Nat} (h : i < l.length) : (ia l)[i]? = some (.int .i64 (l.getD i 0 : Nat)) := by
  simp [ia, List.getD_eq_getElem?_getD, h]
theorem ia_set (l : List Nat) (i d : Nat) : (ia l).setIfInBounds i (.int .i64 (d : Nat)) = ia (l.set i d) := by
  unfold ia; rw [List.setIfInBounds_toArray, List.map_set]
/-- Block b holds the digits l and no more; it may be written. -/
def IB (w : World) (b : Nat) (l : List Nat) : Prop := ∃ e, w.heap[b]? = some (.cells (ia l) e (0, 0))
section
variable {w : World} {b : Nat} {l : List Nat}
theorem IB.lt (h : IB w b l) : b < w.heap.size := by
  obtain ⟨e, h1⟩ := h
  exact (Array.getElem?_eq_some_iff.1 h1).1
theorem IB.notFrozen (h : IB w b l) (i : Nat) : w.frozen? ⟨b, i, none⟩ = false := by
  obtain ⟨e, h1⟩ := h
  unfold World.frozen?
  simp only [h1]
  simp
theorem IB.self (h : IB w b l) : upd w b (ia l) = w := by
  obtain ⟨e, h1⟩ := h
  unfold upd
  cases w with | mk hp tp dr os' out => ?_
  simp only [World.mk.injEq, true_and, and_true] at *
  apply Array.ext_getElem?
  intro i
  rw [Array.getElem?_modify]
  split
  · rename_i he; subst he; rw [h1]; rfl
  · rfl
theorem IB.cells (h : IB w b l) (cs : Array Value) (i : Nat) : (upd w b cs).cell? ⟨b, i, none⟩ = cs[i]? := by
  obtain ⟨e, h1⟩ := h
  unfold World.cell?
  simp only [block_upd h1]
  simp
theorem IB.get (h : IB w b l) {l' : List Nat} {i : Nat} (hi : i < l'.length) : (upd w b (ia l')).cell? ⟨b, i, none⟩ = some (.int .i64 (l'.getD i 0 : Nat)) := by rw [h.cells, ia_get _ hi]
theorem IB.mk' (h : IB w b l) (l' : List Nat) (o : Array Obj) (n : Nat) : IB (Sedge.ext (upd w b (ia l')) o n) b l' := by
  have hlt := h.lt
  obtain ⟨e, h1⟩ := h
  exact ⟨e, by rw [block_ext (by simpa using hlt), block_upd h1]⟩
theorem IB.ns (h : IB w b l) {cap : Nat} (hc : l.length ≤ cap) : NS w (.slice (some ⟨b, 0, none⟩) l.length cap) l := by
  obtain ⟨e, h1⟩ := h
  refine ⟨_, cap, rfl, hc, fun i hi => ⟨b, 0, rfl, ?_⟩⟩
  unfold World.cell?
  simp only [h1, Nat.zero_add]
  simpa using ia_get l hi
theorem IB.same {w' : World} (h : IB w b l) (hs : w'.heap[b]? = w.heap[b]?) : IB w' b l := by
  obtain ⟨e, h1⟩ := h
  exact ⟨e, hs.trans h1⟩
theorem IB.grew {w' : World} (h : IB w b l) (g : Grew w w') : IB w' b l := h.same (g.below.block b h.lt)
theorem IB.ext (h : IB w b l) (o : Array Obj) (n : Nat) : IB (Sedge.ext w o n) b l := h.grew ⟨_, _, rfl⟩
end
theorem NS.upd_ne {w : World} {v : Value} {l : List Nat} (h : NS w v l) {b : Nat} (hn : NotIn b v) (cs : Array Value) : NS (upd w b cs) v l := by
  obtain ⟨a, cap, hv, h0, hc⟩ := h
  refine ⟨a, cap, hv, h0, fun i hi => ?_⟩
  obtain ⟨blk, o, he, h1⟩ := hc i hi
  refine ⟨blk, o, he, ?_⟩
  rw [cell_upd_ne (by exact hn ⟨blk, o, none⟩ _ _ (by rw [hv, he]))]
  exact h1
/-- A slice that is there in w is none of a block that is not. -/
theorem NS.notIn {w : World} {v : Value} {l : List Nat} (h : NS w v l) (hl : l ≠ []) {b : Nat} (hb : w.heap.size ≤ b) : NotIn b v := by
  intro a n c e
  obtain ⟨blk, o, cap, e2, hlt, _⟩ := h.open (List.length_pos_iff.2 hl)
  rw [e] at e2
  have e3 := (Value.slice.inj e2).1
  cases e3
  show blk ≠ b
  omega

/-- The slice v of ours owns the digits l. -/
def OwnN (w : World) (B : Nat) (v : Value) (l : List Nat) : Prop := w.ownsRow B 3 1 v l.length (l.map fun d : Nat => Value.int .i64 d)
theorem OwnN.nil (w : World) (B : Nat) : OwnN w B (.slice none 0 0) [] := ⟨by simp, .inl ⟨rfl, rfl⟩⟩
theorem OwnN.grew {w w' : World} {B : Nat} {v : Value} {l : List Nat} (h : OwnN w B v l) (g : Grew w w') : OwnN w' B v l := by
  obtain ⟨h0, h1⟩ := h
  refine ⟨h0, ?_⟩
  rcases h1 with h1 | ⟨gg, cap, cur, hv, hB, hh, r⟩
  · exact .inl h1
  · have hlt : gg < w.heap.size := by
      rcases Nat.lt_or_ge gg w.heap.size with h | h
      · exact h
      · rw [Array.getElem?_eq_none h] at hh; cases hh
    exact .inr ⟨gg, cap, cur, hv, hB, by rw [g.below.block gg hlt]; exact hh, r⟩
theorem OwnN.ns {w : World} {B : Nat} {v : Value} {l : List Nat} (h : OwnN w B v l) : NS w v l := by
  obtain ⟨_, h1⟩ := h
  rcases h1 with ⟨rfl, h1⟩ | ⟨g, cap, cur, rfl, _, hh, hn, hm, hsz, ht⟩
  · have : l = [] := List.length_eq_zero_iff.1 h1
    subst this
    exact NS.nil w
  · refine ⟨some ⟨g, 0, none⟩, cap, rfl, hn, fun i hi => ⟨g, 0, rfl, ?_⟩⟩
    rw [Nat.mul_one] at ht
    have := take_getElem? (i := i) ht (by simpa using hi)
    simp only [World.cell?, hh, Nat.zero_add, Option.isSome_none, Bool.false_eq_true, if_false]
    rw [← Array.getElem?_toList, this]
    simp [List.getD_eq_getElem?_getD, hi]
theorem OwnN.block {w : World} {B : Nat} {v : Value} {l : List Nat} (h : OwnN w B v l) : ∀ k, v.ownBlock = some k → B ≤ k := by
  obtain ⟨_, h1⟩ := h
  intro k hk
  rcases h1 with ⟨rfl, _⟩ | ⟨g, cap, cur, rfl, hB, _⟩
  · simp [Value.ownBlock] at hk
  · simp [Value.ownBlock] at hk; omega
section
variable {P : Program} {ops : Array Oper} {rest : List Oper} {o : Oper} {a : Act} {Q : Exit → Act → World → Prop}
theorem append1_n {t e' : TypeId} {z0 : Value} (und : P.underlying t = some (.slice 3)) (info : (P.info? 3).map (fun i => (i.zero, i.size, i.bytes)) = some (some z0, 1, 8)) (hz0 : z0.cells.size = 1)
    {W w : World} (hW : Grew W w) {v : Value} {l : List Nat} (hown : OwnN w W.heap.size v l) {d : Nat} {di : Int} (hd : di = (d : Nat))
    (hlen : l.length < 17592186044415) (s x : Operand) (hg : o.guard = none)
    (ho : o.op = .call { callee := .builtin .append, args := #[s, x], argTypes := #[t, t] }) (hs : a.eval s = v) {k : Nat} (hk : k = w.heap.size) (hx : a.eval x = .slice (some ⟨k, 0, none⟩) 1 1)
    (h : ∀ v' oo nn, OwnN (ext W oo nn) W.heap.size v' (l ++ [d]) → wpList P ops Q rest (a.put o.dst v') (ext W oo nn)) :
    wpList P ops Q (o :: rest) a (w.alloc (.cells #[.int .i64 di] e')) := by
  subst hd
  refine append1_v und info hz0 hW (xs := l.map fun d : Nat => Value.int .i64 d) (by simpa [OwnN] using hown) rfl (by simpa using hlen) s x hg ho hs hk hx ?_
  intro v' oo nn h1 _
  exact h v' oo nn (by simpa [OwnN] using h1)
/-- 'make([]int, n)'. -/
theorem make_n {t : TypeId} (und : P.underlying t = some (.slice 3)) (info : (P.info? 3).map (fun i => (i.zero, i.size, i.bytes)) = some (some (.int .i64 0), 1, 8)) {W w : World} (hW : Grew W w) (x c : Operand) (hg : o.guard = none) (hop : o.op = Op.makeSlice t x c) (n : Nat) {L : Int} (hL : L = n) (hl : a.eval x = .int .i64 L) (hc : a.eval c = .int .i64 L)
    (hn : n ≤ 17592186044415)
    (h : ∀ oo nn k, W.heap.size ≤ k → IB (ext W oo nn) k (List.replicate n 0) → wpList P ops Q rest (a.put o.dst (.slice (some ⟨k, 0, none⟩) n n)) (ext W oo nn)) :
    wpList P ops Q (o :: rest) a w := by
  obtain ⟨i0, hi, hz⟩ := Option.map_eq_some_iff.1 info
  simp only [Prod.mk.injEq] at hz
  obtain ⟨hz0, hz1, hz2⟩ := hz
  refine wpList_make_full w hg x c t hop W.heap.size 3 i0 (.int .i64 0) 1 und hi hz0 hz1 .i64 .i64 L L n hl hc hL hL (by rw [hz2]; omega) (by simp [maxLen]; omega) hW.below.size ?_
  intro w' ho hgr
  obtain ⟨oo, nn, rfl⟩ := grew_grown hW hgr (fun k hk => by cases hk)
  refine h oo nn _ hW.below.size ?_
  obtain ⟨_, h1⟩ := ho
  rcases h1 with ⟨h1, _⟩ | ⟨g, cap, cur, he, _, hh, _, _, hsz, ht⟩
  · cases h1
  · cases he
    refine ⟨3, ?_⟩
    rw [hh]
    congr 2
    apply Array.toList_inj.1
    have e0 : cur.toList.length = n * 1 := by simpa using hsz
    rw [List.take_of_length_le (by omega)] at ht
    rw [ht]
    apply List.ext_getElem?
    intro k
    simp [madeCells, Value.cells, Nat.mod_one, ia]
    by_cases hk : k < n <;> simp [hk]
end
end Sedge
end
