/-
  Texts laid one behind the other (a claim has at most 60 files): LawSca1, FinT, Shf2, Dy2, Dy3, Dy4, Dy6.
-/
import Derived.Deep.CutBlock
import Derived.Deep.DeepCutAuto
import Derived.Test.YtcmggfpcbijcjaaQEquilScales1
import Derived.Test.YtcmggfpcbijcjaaQEquilScales2
import Derived.Test.YtcmggfpcbijcjaaQEquilScales3
import Derived.Test.YtcmggfpcbijcjaaQEquilScales4
import Derived.Test.YtcmggfpcbijcjaaQEquilScales5
import Derived.Test.YtcmggfpcbijcjaaQEquilScales6
import Derived.Test.YtcmggfpcbijcjaaQEquilScales7
import Derived.Test.YtcmggfpcbijcjaaQEquilScales8
section
/-
  The walk of the law EquilScales (layer 15): the early ways out.
-/
set_option linter.unusedSimpArgs false
set_option linter.unusedVariables false
open Go Go.RowKit Sedge
namespace Go.Proofs.Ytcmggfpcbijcjaa
set_option maxRecDepth 100000 in
set_option maxHeartbeats 4000000 in
theorem sca_great (x : MatM) (aD : Option Addr) (cD : Nat) (aR aC : Option Addr) (cR cC : Nat) (rs cs : List Int) (w : World) (hD : FS w (.slice aD x.ws.length cD) x.ws) (hwf : x.wf) (hVR : IS .i64 w (.slice aR rs.length cR) rs) (hVC : IS .i64 w (.slice aC cs.length cC) cs) (hg : MatM.great x = true ∨ 60 < rs.length ∨ 60 < cs.length) : Calls Try.prog 22 #[.agg #[.slice aD x.ws.length cD, .int .i64 x.off, .int .i64 x.rows, .int .i64 x.cols, .int .i64 x.ld], .slice aR rs.length cR, .slice aC cs.length cC] w (fun e w' => e = .returned (.bool true) ∧ ∃ o n, w' = ext w o n) := by
  have hgt : ∀ w', FS w' (.slice aD x.ws.length cD) x.ws → Calls Try.prog 42 #[.agg #[.slice aD x.ws.length cD, .int .i64 x.off, .int .i64 x.rows, .int .i64 x.cols, .int .i64 x.ld]] w' (fun e w2 => e = .returned (.bool (MatM.great x)) ∧ ∃ o n, w2 = ext w' o n) := fun w' h => great_any x _ w' h
  cases hg1 : MatM.great x
  · rw [hg1] at hgt
    by_cases h1 : 60 < rs.length
    · have d1 : decide ((60 : Int) < (rs.length : Int)) = true := by simp; omega
      clear hg1 hg hwf
      go_enter Try.func22, Try.ntmps22
      refine seq_stop ?_
      go_wp2
      refine stop_go (fun W hW => ?_)
      have s1 : w.heap.size < W.heap.size := by rw [hW]; simp only [World.size_alloc]; omega
      have b1 : ∀ i, W.cell? ⟨w.heap.size, i, none⟩ = (#[.slice aD x.ws.length cD, .int .i64 x.off, .int .i64 x.rows, .int .i64 x.cols, .int .i64 x.ld] : Array Value)[i]? := by intro i; rw [hW]; go_simp
      have g0 : Grew w W := by rw [hW]; exact (Grew.refl _).alloc _
      clear hW
      have hDW := hD.grew g0
      go_wp2_with (first | (go_at_call 101; ((with_reducible refine (awake15 _).mono ?_); rintro e w1 ⟨rfl, o1, n1, rfl⟩)) | (go_at_call 42; ((with_reducible refine (hgt _ ?_).mono ?_); (focus (first | (with_reducible assumption) | (with_reducible refine FS.ext ?_ _ _; with_reducible assumption) | (with_reducible refine IS.ext ?_ _ _; with_reducible assumption) | (refine hDu _ ?_; with_reducible assumption) | (refine hOu _ ?_; with_reducible assumption) | (refine hDa _ ?_; with_reducible assumption) | (refine hDb _ ?_; with_reducible assumption) | (refine hDc _ ?_; with_reducible assumption) | (refine hDd _ ?_; with_reducible assumption) | (refine FW.fs ?_ (by omega) _; with_reducible assumption) | (refine WS.fs ?_; with_reducible assumption) | (refine FW.fs ?_ (by omega) _; assumption) | omega | assumption)); rintro e w1 ⟨rfl, o1, n1, rfl⟩)))
      go_ret
      exact ⟨rfl, by (show Grew _ _; repeat (first | (with_reducible exact Grew.refl _) | (with_reducible assumption) | (with_reducible exact Grew.same_o) | (with_reducible exact Grew.app_o) | (with_reducible refine Grew.ext ?_ _ _) | (with_reducible refine Grew.alloc ?_ _) | ((with_reducible refine Grew.setCell ?_ ?_ _); rotate_left; (focus (dsimp only; first | omega | (simp only [size_ext, World.size_alloc, Array.size_append]; omega)))) | (with_reducible refine Grew.drewN ?_ _) | (with_reducible refine Grew.drew ?_)))⟩
    · have d1 : decide ((60 : Int) < (rs.length : Int)) = false := by simp; omega
      have d2 : decide ((60 : Int) < (cs.length : Int)) = true := by rw [hg1] at hg; simp; simp at hg; omega
      clear hg1 hg hwf h1
      go_enter Try.func22, Try.ntmps22
      refine seq_stop ?_
      go_wp2
      refine stop_go (fun W hW => ?_)
      have s1 : w.heap.size < W.heap.size := by rw [hW]; simp only [World.size_alloc]; omega
      have b1 : ∀ i, W.cell? ⟨w.heap.size, i, none⟩ = (#[.slice aD x.ws.length cD, .int .i64 x.off, .int .i64 x.rows, .int .i64 x.cols, .int .i64 x.ld] : Array Value)[i]? := by intro i; rw [hW]; go_simp
      have g0 : Grew w W := by rw [hW]; exact (Grew.refl _).alloc _
      clear hW
      have hDW := hD.grew g0
      go_wp2_with (first | (go_at_call 101; ((with_reducible refine (awake15 _).mono ?_); rintro e w1 ⟨rfl, o1, n1, rfl⟩)) | (go_at_call 42; ((with_reducible refine (hgt _ ?_).mono ?_); (focus (first | (with_reducible assumption) | (with_reducible refine FS.ext ?_ _ _; with_reducible assumption) | (with_reducible refine IS.ext ?_ _ _; with_reducible assumption) | (refine hDu _ ?_; with_reducible assumption) | (refine hOu _ ?_; with_reducible assumption) | (refine hDa _ ?_; with_reducible assumption) | (refine hDb _ ?_; with_reducible assumption) | (refine hDc _ ?_; with_reducible assumption) | (refine hDd _ ?_; with_reducible assumption) | (refine FW.fs ?_ (by omega) _; with_reducible assumption) | (refine WS.fs ?_; with_reducible assumption) | (refine FW.fs ?_ (by omega) _; assumption) | omega | assumption)); rintro e w1 ⟨rfl, o1, n1, rfl⟩)))
      go_ret
      exact ⟨rfl, by (show Grew _ _; repeat (first | (with_reducible exact Grew.refl _) | (with_reducible assumption) | (with_reducible exact Grew.same_o) | (with_reducible exact Grew.app_o) | (with_reducible refine Grew.ext ?_ _ _) | (with_reducible refine Grew.alloc ?_ _) | ((with_reducible refine Grew.setCell ?_ ?_ _); rotate_left; (focus (dsimp only; first | omega | (simp only [size_ext, World.size_alloc, Array.size_append]; omega)))) | (with_reducible refine Grew.drewN ?_ _) | (with_reducible refine Grew.drew ?_)))⟩
  · rw [hg1] at hgt
    clear hg1 hg hwf
    go_enter Try.func22, Try.ntmps22
    refine seq_stop ?_
    go_wp2
    refine stop_go (fun W hW => ?_)
    have s1 : w.heap.size < W.heap.size := by rw [hW]; simp only [World.size_alloc]; omega
    have b1 : ∀ i, W.cell? ⟨w.heap.size, i, none⟩ = (#[.slice aD x.ws.length cD, .int .i64 x.off, .int .i64 x.rows, .int .i64 x.cols, .int .i64 x.ld] : Array Value)[i]? := by intro i; rw [hW]; go_simp
    have g0 : Grew w W := by rw [hW]; exact (Grew.refl _).alloc _
    clear hW
    have hDW := hD.grew g0
    go_wp2_with (first | (go_at_call 101; ((with_reducible refine (awake15 _).mono ?_); rintro e w1 ⟨rfl, o1, n1, rfl⟩)) | (go_at_call 42; ((with_reducible refine (hgt _ ?_).mono ?_); (focus (first | (with_reducible assumption) | (with_reducible refine FS.ext ?_ _ _; with_reducible assumption) | (with_reducible refine IS.ext ?_ _ _; with_reducible assumption) | (refine hDu _ ?_; with_reducible assumption) | (refine hOu _ ?_; with_reducible assumption) | (refine hDa _ ?_; with_reducible assumption) | (refine hDb _ ?_; with_reducible assumption) | (refine hDc _ ?_; with_reducible assumption) | (refine hDd _ ?_; with_reducible assumption) | (refine FW.fs ?_ (by omega) _; with_reducible assumption) | (refine WS.fs ?_; with_reducible assumption) | (refine FW.fs ?_ (by omega) _; assumption) | omega | assumption)); rintro e w1 ⟨rfl, o1, n1, rfl⟩)))
    go_ret
    exact ⟨rfl, by (show Grew _ _; repeat (first | (with_reducible exact Grew.refl _) | (with_reducible assumption) | (with_reducible exact Grew.same_o) | (with_reducible exact Grew.app_o) | (with_reducible refine Grew.ext ?_ _ _) | (with_reducible refine Grew.alloc ?_ _) | ((with_reducible refine Grew.setCell ?_ ?_ _); rotate_left; (focus (dsimp only; first | omega | (simp only [size_ext, World.size_alloc, Array.size_append]; omega)))) | (with_reducible refine Grew.drewN ?_ _) | (with_reducible refine Grew.drew ?_)))⟩
set_option maxRecDepth 100000 in
set_option maxHeartbeats 4000000 in
theorem sca_bad (x : MatM) (aD : Option Addr) (cD : Nat) (aR aC : Option Addr) (cR cC : Nat) (rs cs : List Int) (w : World) (hD : FS w (.slice aD x.ws.length cD) x.ws) (hwf : x.wf) (hVR : IS .i64 w (.slice aR rs.length cR) rs) (hVC : IS .i64 w (.slice aC cs.length cC) cs) (hg : MatM.great x = false) (hl : x.ws.length ≤ 1000) (hn1 : ¬ 60 < rs.length) (hn2 : ¬ 60 < cs.length) (hgo : x.good = false) : Calls Try.prog 22 #[.agg #[.slice aD x.ws.length cD, .int .i64 x.off, .int .i64 x.rows, .int .i64 x.cols, .int .i64 x.ld], .slice aR rs.length cR, .slice aC cs.length cC] w (fun e w' => e = .returned (.bool true) ∧ ∃ o n, w' = ext w o n) := by
  have hgt : ∀ w', FS w' (.slice aD x.ws.length cD) x.ws → Calls Try.prog 42 #[.agg #[.slice aD x.ws.length cD, .int .i64 x.off, .int .i64 x.rows, .int .i64 x.cols, .int .i64 x.ld]] w' (fun e w2 => e = .returned (.bool false) ∧ ∃ o n, w2 = ext w' o n) := fun w' h => by
    have := great_any x _ w' h; rw [hg] at this; exact this
  have hap : ∀ w', FS w' (.slice aD x.ws.length cD) x.ws → Calls Try.prog 43 #[.agg #[.slice aD x.ws.length cD, .int .i64 x.off, .int .i64 x.rows, .int .i64 x.cols, .int .i64 x.ld]] w' (fun e w2 => ∃ a c, e = .returned (.agg #[.slice a x.ws.length c, .int .i64 x.off, .int .i64 x.rows, .int .i64 x.cols, .int .i64 x.ld]) ∧ FS w2 (.slice a x.ws.length c) x.ws ∧ ∃ o n, w2 = ext w' o n) := fun w' h => by
    refine (apart_any x _ w' h (by omega)).mono fun e w2 hh => ?_
    obtain ⟨v, rfl, hv, q⟩ := hh
    obtain ⟨a, c, rfl⟩ := hv.fs.shape
    exact ⟨a, c, rfl, hv.fs, q⟩
  have hall : ∀ a c w', FS w' (.slice a x.ws.length c) x.ws → FS w' (.slice aD x.ws.length cD) x.ws → Calls Try.prog 47 #[.slice a x.ws.length c, .slice aD x.ws.length cD] w' (fun e w2 => e = .returned (.bool true) ∧ ∃ o n, w2 = ext w' o n) := fun a c w' h1 h2 => by
    have := all_any _ _ x.ws x.ws w' h1 h2; rw [decide_eq_true rfl] at this; exact this
  have d1 : decide ((60 : Int) < (rs.length : Int)) = false := by simp; omega
  have d2 : decide ((60 : Int) < (cs.length : Int)) = false := by simp; omega
  have hgd : ∀ w', FS w' (.slice aD x.ws.length cD) x.ws → Calls Try.prog 46 #[.agg #[.slice aD x.ws.length cD, .int .i64 x.off, .int .i64 x.rows, .int .i64 x.cols, .int .i64 x.ld]] w' (fun e w2 => e = .returned (.bool false) ∧ ∃ o n, w2 = ext w' o n) := fun w' h => by
    have := rgood_any x _ w' h hwf; rw [hgo] at this; exact this
  have hsc : ∀ a c w', FS w' (.slice a x.ws.length c) x.ws → IS .i64 w' (.slice aR rs.length cR) rs → IS .i64 w' (.slice aC cs.length cC) cs → Calls Try.prog 109 #[.agg #[.slice a x.ws.length c, .int .i64 x.off, .int .i64 x.rows, .int .i64 x.cols, .int .i64 x.ld], .slice aR rs.length cR, .slice aC cs.length cC] w' (fun e w2 => e = .returned (.tuple #[.agg #[.slice none 0 0, .int .i64 0, .int .i64 0, .int .i64 0, .int .i64 0], .int .i64 1]) ∧ ∃ o n, w2 = ext w' o n) := fun a c w' h _ _ => scale_bad x _ _ _ w' h hgo hwf
  have hex : ∀ a c w', FS w' (.slice a x.ws.length c) x.ws → IS .i64 w' (.slice aR rs.length cR) rs → IS .i64 w' (.slice aC cs.length cC) cs → Calls Try.prog 111 #[.agg #[.slice a x.ws.length c, .int .i64 x.off, .int .i64 x.rows, .int .i64 x.cols, .int .i64 x.ld], .slice aR rs.length cR, .slice aC cs.length cC] w' (fun e w2 => e = .returned (.bool false) ∧ ∃ o n, w2 = ext w' o n) := fun a c w' h h1 h2 => eexact_no _ _ _ rs cs x.ws _ _ _ _ 1 w' h h1 h2 rfl (fun w2 q1 q2 q3 => hsc a c w2 q1 q2 q3)
  clear hg hl hn1 hn2 hgo hwf
  go_enter Try.func22, Try.ntmps22
  refine seq_stop ?_
  go_wp2
  refine stop_go (fun W hW => ?_)
  have s1 : w.heap.size < W.heap.size := by rw [hW]; simp only [World.size_alloc]; omega
  have b1 : ∀ i, W.cell? ⟨w.heap.size, i, none⟩ = (#[.slice aD x.ws.length cD, .int .i64 x.off, .int .i64 x.rows, .int .i64 x.cols, .int .i64 x.ld] : Array Value)[i]? := by intro i; rw [hW]; go_simp
  have X1 : Box W (w.heap.size) #[.slice aD x.ws.length cD, .int .i64 x.off, .int .i64 x.rows, .int .i64 x.cols, .int .i64 x.ld] := by rw [hW]; exact Box.new' (by first | rfl | (simp only [World.size_alloc]; done) | (simp only [World.size_alloc]; omega))
  have f1 : ∀ i, W.frozen? ⟨w.heap.size, i, none⟩ = false := by intro i; rw [hW]; go_simp
  have g0 : Grew w W := by rw [hW]; exact (Grew.refl _).alloc _
  clear hW
  obtain ⟨p3, hp3⟩ : ∃ p, p = w.heap.size := ⟨_, rfl⟩
  have Y3 : Box W p3 #[.slice aD x.ws.length cD, .int .i64 x.off, .int .i64 x.rows, .int .i64 x.cols, .int .i64 x.ld] := by rw [hp3]; exact X1
  have hDW := hD.grew g0
  have t3 := Y3.cell
  have l3 := Y3.lt
  simp only [← hp3]
  clear X1 b1 s1 f1 hp3
  go_upto_region 6 with (first | (go_at_call 101; ((with_reducible refine (awake15 _).mono ?_); rintro e w1 ⟨rfl, o1, n1, rfl⟩)) | (go_at_call 42; ((with_reducible refine (hgt _ (hDW.grew (by (show Grew _ _; (try simp only [← Array.append_assoc]); repeat (first | (with_reducible exact Grew.same_o) | (with_reducible exact Grew.refl _) | (with_reducible assumption) | (with_reducible refine Grew.alloc ?_ _) | (with_reducible refine Grew.app_r ?_) | ((with_reducible refine Grew.setCell ?_ ?_ _); rotate_left; (focus (dsimp only; first | omega | (simp only [size_ext, World.size_alloc, Array.size_append]; omega)))) | (with_reducible refine Grew.ext ?_ _ _) | (with_reducible refine Grew.drewN ?_ _) | (with_reducible refine Grew.drew ?_)))))).mono ?_); rintro e w1 ⟨rfl, o2, n2, rfl⟩)) | (go_at_call 43; ((with_reducible refine (hap _ (hDW.grew (by (show Grew _ _; (try simp only [← Array.append_assoc]); repeat (first | (with_reducible exact Grew.same_o) | (with_reducible exact Grew.refl _) | (with_reducible assumption) | (with_reducible refine Grew.alloc ?_ _) | (with_reducible refine Grew.app_r ?_) | ((with_reducible refine Grew.setCell ?_ ?_ _); rotate_left; (focus (dsimp only; first | omega | (simp only [size_ext, World.size_alloc, Array.size_append]; omega)))) | (with_reducible refine Grew.ext ?_ _ _) | (with_reducible refine Grew.drewN ?_ _) | (with_reducible refine Grew.drew ?_)))))).mono ?_); rintro e w1 ⟨va, vc, rfl, hv, o3, n3, rfl⟩; (try simp only [drew_ext, drewN_ext, ext_ext, Array.append_assoc] at hv))))
  refine name_any (fun V hV => ?_)
  obtain ⟨p7, hp7⟩ : ∃ p, p = W.heap.size + (o1.size + (o2.size + o3.size)) := ⟨_, rfl⟩
  have gV : Grew W V := by rw [← hV]; (show Grew _ _; (try simp only [← Array.append_assoc]); repeat (first | (with_reducible exact Grew.same_o) | (with_reducible exact Grew.refl _) | (with_reducible assumption) | (with_reducible refine Grew.alloc ?_ _) | (with_reducible refine Grew.app_r ?_) | ((with_reducible refine Grew.setCell ?_ ?_ _); rotate_left; (focus (dsimp only; first | omega | (simp only [size_ext, World.size_alloc, Array.size_append]; omega)))) | (with_reducible refine Grew.ext ?_ _ _) | (with_reducible refine Grew.drewN ?_ _) | (with_reducible refine Grew.drew ?_)))
  have gw := Grew.trans g0 gV
  have Z3 := Y3.grew gV
  have Z7 : Box V p7 #[.slice va x.ws.length vc, .int .i64 x.off, .int .i64 x.rows, .int .i64 x.cols, .int .i64 x.ld] := by rw [← hV]; exact Box.new' (by rw [hp7]; simp only [size_ext, Array.size_append])
  have hvV : FS V (.slice va x.ws.length vc) x.ws := by rw [← hV]; exact hv.grew (by (show Grew _ _; (try simp only [← Array.append_assoc]); repeat (first | (with_reducible exact Grew.same_o) | (with_reducible exact Grew.refl _) | (with_reducible assumption) | (with_reducible refine Grew.alloc ?_ _) | (with_reducible refine Grew.app_r ?_) | ((with_reducible refine Grew.setCell ?_ ?_ _); rotate_left; (focus (dsimp only; first | omega | (simp only [size_ext, World.size_alloc, Array.size_append]; omega)))) | (with_reducible refine Grew.ext ?_ _ _) | (with_reducible refine Grew.drewN ?_ _) | (with_reducible refine Grew.drew ?_))))
  have hDV := hDW.grew gV
  have hXV := hVR.grew gw
  have hYV := hVC.grew gw
  have t3 := Z3.cell
  have l3 := Z3.lt
  have t7 := Z7.cell
  have l7 := Z7.lt
  simp only [← hp7]
  clear hV hp7 hv
  go_upto_region 7 with (first | (go_at_call 109; ((with_reducible refine (hsc _ _ _ (hvV.grew (by (show Grew _ _; (try simp only [← Array.append_assoc]); repeat (first | (with_reducible exact Grew.same_o) | (with_reducible exact Grew.refl _) | (with_reducible assumption) | (with_reducible refine Grew.alloc ?_ _) | (with_reducible refine Grew.app_r ?_) | ((with_reducible refine Grew.setCell ?_ ?_ _); rotate_left; (focus (dsimp only; first | omega | (simp only [size_ext, World.size_alloc, Array.size_append]; omega)))) | (with_reducible refine Grew.ext ?_ _ _) | (with_reducible refine Grew.drewN ?_ _) | (with_reducible refine Grew.drew ?_))))) (hXV.grew (by (show Grew _ _; (try simp only [← Array.append_assoc]); repeat (first | (with_reducible exact Grew.same_o) | (with_reducible exact Grew.refl _) | (with_reducible assumption) | (with_reducible refine Grew.alloc ?_ _) | (with_reducible refine Grew.app_r ?_) | ((with_reducible refine Grew.setCell ?_ ?_ _); rotate_left; (focus (dsimp only; first | omega | (simp only [size_ext, World.size_alloc, Array.size_append]; omega)))) | (with_reducible refine Grew.ext ?_ _ _) | (with_reducible refine Grew.drewN ?_ _) | (with_reducible refine Grew.drew ?_))))) (hYV.grew (by (show Grew _ _; (try simp only [← Array.append_assoc]); repeat (first | (with_reducible exact Grew.same_o) | (with_reducible exact Grew.refl _) | (with_reducible assumption) | (with_reducible refine Grew.alloc ?_ _) | (with_reducible refine Grew.app_r ?_) | ((with_reducible refine Grew.setCell ?_ ?_ _); rotate_left; (focus (dsimp only; first | omega | (simp only [size_ext, World.size_alloc, Array.size_append]; omega)))) | (with_reducible refine Grew.ext ?_ _ _) | (with_reducible refine Grew.drewN ?_ _) | (with_reducible refine Grew.drew ?_)))))).mono ?_); rintro e w1 ⟨rfl, o4, n4, rfl⟩)))
  refine name_any (fun U hU => ?_)
  obtain ⟨p8, hp8⟩ : ∃ p, p = V.heap.size + o4.size := ⟨_, rfl⟩
  have gU : Grew V U := by rw [← hU]; (show Grew _ _; (try simp only [← Array.append_assoc]); repeat (first | (with_reducible exact Grew.same_o) | (with_reducible exact Grew.refl _) | (with_reducible assumption) | (with_reducible refine Grew.alloc ?_ _) | (with_reducible refine Grew.app_r ?_) | ((with_reducible refine Grew.setCell ?_ ?_ _); rotate_left; (focus (dsimp only; first | omega | (simp only [size_ext, World.size_alloc, Array.size_append]; omega)))) | (with_reducible refine Grew.ext ?_ _ _) | (with_reducible refine Grew.drewN ?_ _) | (with_reducible refine Grew.drew ?_)))
  have gwU := Grew.trans gw gU
  have Z8 : Box U p8 #[.slice none 0 0, .int .i64 0, .int .i64 0, .int .i64 0, .int .i64 0] := by rw [← hU]; exact Box.new' (by rw [hp8]; simp only [size_ext, Array.size_append])
  have hvU := hvV.grew gU
  have hDU := hDV.grew gU
  have hXU := hXV.grew gU
  have hYU := hYV.grew gU
  have t3 := (Z3.grew gU).cell
  have l3 := (Z3.grew gU).lt
  have t7 := (Z7.grew gU).cell
  have l7 := (Z7.grew gU).lt
  have t8 := Z8.cell
  have l8 := Z8.lt
  simp only [← hp8]
  clear hU hp8
  go_wp2_with (first | (go_at_call 111; ((with_reducible refine (hex _ _ _ (hvU.grew (by (show Grew _ _; (try simp only [← Array.append_assoc]); repeat (first | (with_reducible exact Grew.same_o) | (with_reducible exact Grew.refl _) | (with_reducible assumption) | (with_reducible refine Grew.alloc ?_ _) | (with_reducible refine Grew.app_r ?_) | ((with_reducible refine Grew.setCell ?_ ?_ _); rotate_left; (focus (dsimp only; first | omega | (simp only [size_ext, World.size_alloc, Array.size_append]; omega)))) | (with_reducible refine Grew.ext ?_ _ _) | (with_reducible refine Grew.drewN ?_ _) | (with_reducible refine Grew.drew ?_))))) (hXU.grew (by (show Grew _ _; (try simp only [← Array.append_assoc]); repeat (first | (with_reducible exact Grew.same_o) | (with_reducible exact Grew.refl _) | (with_reducible assumption) | (with_reducible refine Grew.alloc ?_ _) | (with_reducible refine Grew.app_r ?_) | ((with_reducible refine Grew.setCell ?_ ?_ _); rotate_left; (focus (dsimp only; first | omega | (simp only [size_ext, World.size_alloc, Array.size_append]; omega)))) | (with_reducible refine Grew.ext ?_ _ _) | (with_reducible refine Grew.drewN ?_ _) | (with_reducible refine Grew.drew ?_))))) (hYU.grew (by (show Grew _ _; (try simp only [← Array.append_assoc]); repeat (first | (with_reducible exact Grew.same_o) | (with_reducible exact Grew.refl _) | (with_reducible assumption) | (with_reducible refine Grew.alloc ?_ _) | (with_reducible refine Grew.app_r ?_) | ((with_reducible refine Grew.setCell ?_ ?_ _); rotate_left; (focus (dsimp only; first | omega | (simp only [size_ext, World.size_alloc, Array.size_append]; omega)))) | (with_reducible refine Grew.ext ?_ _ _) | (with_reducible refine Grew.drewN ?_ _) | (with_reducible refine Grew.drew ?_)))))).mono ?_); rintro e w1 ⟨rfl, o5, n5, rfl⟩)) | (go_at_call 47; ((with_reducible refine (hall _ _ _ (hvU.grew (by (show Grew _ _; (try simp only [← Array.append_assoc]); repeat (first | (with_reducible exact Grew.same_o) | (with_reducible exact Grew.refl _) | (with_reducible assumption) | (with_reducible refine Grew.alloc ?_ _) | (with_reducible refine Grew.app_r ?_) | ((with_reducible refine Grew.setCell ?_ ?_ _); rotate_left; (focus (dsimp only; first | omega | (simp only [size_ext, World.size_alloc, Array.size_append]; omega)))) | (with_reducible refine Grew.ext ?_ _ _) | (with_reducible refine Grew.drewN ?_ _) | (with_reducible refine Grew.drew ?_))))) (hDU.grew (by (show Grew _ _; (try simp only [← Array.append_assoc]); repeat (first | (with_reducible exact Grew.same_o) | (with_reducible exact Grew.refl _) | (with_reducible assumption) | (with_reducible refine Grew.alloc ?_ _) | (with_reducible refine Grew.app_r ?_) | ((with_reducible refine Grew.setCell ?_ ?_ _); rotate_left; (focus (dsimp only; first | omega | (simp only [size_ext, World.size_alloc, Array.size_append]; omega)))) | (with_reducible refine Grew.ext ?_ _ _) | (with_reducible refine Grew.drewN ?_ _) | (with_reducible refine Grew.drew ?_)))))).mono ?_); rintro e w1 ⟨rfl, o6, n6, rfl⟩)) | (go_at_call 46; ((with_reducible refine (hgd _ (hDU.grew (by (show Grew _ _; (try simp only [← Array.append_assoc]); repeat (first | (with_reducible exact Grew.same_o) | (with_reducible exact Grew.refl _) | (with_reducible assumption) | (with_reducible refine Grew.alloc ?_ _) | (with_reducible refine Grew.app_r ?_) | ((with_reducible refine Grew.setCell ?_ ?_ _); rotate_left; (focus (dsimp only; first | omega | (simp only [size_ext, World.size_alloc, Array.size_append]; omega)))) | (with_reducible refine Grew.ext ?_ _ _) | (with_reducible refine Grew.drewN ?_ _) | (with_reducible refine Grew.drew ?_)))))).mono ?_); rintro e w1 ⟨rfl, o7, n7, rfl⟩)) | (go_at_call 101; ((with_reducible refine (awake15 _).mono ?_); rintro e w9 ⟨rfl, o9, n9, rfl⟩)))
  go_ret
  exact ⟨rfl, Grew.trans gwU (by (show Grew _ _; (try simp only [← Array.append_assoc]); repeat (first | (with_reducible exact Grew.same_o) | (with_reducible exact Grew.refl _) | (with_reducible assumption) | (with_reducible refine Grew.alloc ?_ _) | (with_reducible refine Grew.app_r ?_) | ((with_reducible refine Grew.setCell ?_ ?_ _); rotate_left; (focus (dsimp only; first | omega | (simp only [size_ext, World.size_alloc, Array.size_append]; omega)))) | (with_reducible refine Grew.ext ?_ _ _) | (with_reducible refine Grew.drewN ?_ _) | (with_reducible refine Grew.drew ?_))))⟩
set_option maxRecDepth 100000 in
set_option maxHeartbeats 4000000 in
theorem sca_sz (x : MatM) (aD : Option Addr) (cD : Nat) (aR aC : Option Addr) (cR cC : Nat) (rs cs : List Int) (w : World) (hD : FS w (.slice aD x.ws.length cD) x.ws) (hwf : x.wf) (hVR : IS .i64 w (.slice aR rs.length cR) rs) (hVC : IS .i64 w (.slice aC cs.length cC) cs) (hg : MatM.great x = false) (hl : x.ws.length ≤ 1000) (hn1 : ¬ 60 < rs.length) (hn2 : ¬ 60 < cs.length) (hgo : x.good = true) (hs : ¬ ((rs.length : Int) = x.rows ∧ (cs.length : Int) = x.cols)) : Calls Try.prog 22 #[.agg #[.slice aD x.ws.length cD, .int .i64 x.off, .int .i64 x.rows, .int .i64 x.cols, .int .i64 x.ld], .slice aR rs.length cR, .slice aC cs.length cC] w (fun e w' => e = .returned (.bool true) ∧ ∃ o n, w' = ext w o n) := by
  have hgt : ∀ w', FS w' (.slice aD x.ws.length cD) x.ws → Calls Try.prog 42 #[.agg #[.slice aD x.ws.length cD, .int .i64 x.off, .int .i64 x.rows, .int .i64 x.cols, .int .i64 x.ld]] w' (fun e w2 => e = .returned (.bool false) ∧ ∃ o n, w2 = ext w' o n) := fun w' h => by
    have := great_any x _ w' h; rw [hg] at this; exact this
  have hap : ∀ w', FS w' (.slice aD x.ws.length cD) x.ws → Calls Try.prog 43 #[.agg #[.slice aD x.ws.length cD, .int .i64 x.off, .int .i64 x.rows, .int .i64 x.cols, .int .i64 x.ld]] w' (fun e w2 => ∃ a c, e = .returned (.agg #[.slice a x.ws.length c, .int .i64 x.off, .int .i64 x.rows, .int .i64 x.cols, .int .i64 x.ld]) ∧ FS w2 (.slice a x.ws.length c) x.ws ∧ ∃ o n, w2 = ext w' o n) := fun w' h => by
    refine (apart_any x _ w' h (by omega)).mono fun e w2 hh => ?_
    obtain ⟨v, rfl, hv, q⟩ := hh
    obtain ⟨a, c, rfl⟩ := hv.fs.shape
    exact ⟨a, c, rfl, hv.fs, q⟩
  have hall : ∀ a c w', FS w' (.slice a x.ws.length c) x.ws → FS w' (.slice aD x.ws.length cD) x.ws → Calls Try.prog 47 #[.slice a x.ws.length c, .slice aD x.ws.length cD] w' (fun e w2 => e = .returned (.bool true) ∧ ∃ o n, w2 = ext w' o n) := fun a c w' h1 h2 => by
    have := all_any _ _ x.ws x.ws w' h1 h2; rw [decide_eq_true rfl] at this; exact this
  have d1 : decide ((60 : Int) < (rs.length : Int)) = false := by simp; omega
  have d2 : decide ((60 : Int) < (cs.length : Int)) = false := by simp; omega
  have hgd : ∀ w', FS w' (.slice aD x.ws.length cD) x.ws → Calls Try.prog 46 #[.agg #[.slice aD x.ws.length cD, .int .i64 x.off, .int .i64 x.rows, .int .i64 x.cols, .int .i64 x.ld]] w' (fun e w2 => e = .returned (.bool true) ∧ ∃ o n, w2 = ext w' o n) := fun w' h => by
    have := rgood_any x _ w' h hwf; rw [hgo] at this; exact this
  have hsc : ∀ a c w', FS w' (.slice a x.ws.length c) x.ws → IS .i64 w' (.slice aR rs.length cR) rs → IS .i64 w' (.slice aC cs.length cC) cs → Calls Try.prog 109 #[.agg #[.slice a x.ws.length c, .int .i64 x.off, .int .i64 x.rows, .int .i64 x.cols, .int .i64 x.ld], .slice aR rs.length cR, .slice aC cs.length cC] w' (fun e w2 => e = .returned (.tuple #[.agg #[.slice none 0 0, .int .i64 0, .int .i64 0, .int .i64 0, .int .i64 0], .int .i64 3]) ∧ ∃ o n, w2 = ext w' o n) := fun a c w' h q1 q2 => scale_sz x _ _ _ rs cs w' h hgo hwf q1 q2 hs
  have hex : ∀ a c w', FS w' (.slice a x.ws.length c) x.ws → IS .i64 w' (.slice aR rs.length cR) rs → IS .i64 w' (.slice aC cs.length cC) cs → Calls Try.prog 111 #[.agg #[.slice a x.ws.length c, .int .i64 x.off, .int .i64 x.rows, .int .i64 x.cols, .int .i64 x.ld], .slice aR rs.length cR, .slice aC cs.length cC] w' (fun e w2 => e = .returned (.bool false) ∧ ∃ o n, w2 = ext w' o n) := fun a c w' h h1 h2 => eexact_no _ _ _ rs cs x.ws _ _ _ _ 3 w' h h1 h2 rfl (fun w2 q1 q2 q3 => hsc a c w2 q1 q2 q3)
  by_cases h1 : (rs.length : Int) = x.rows
  · have h2 : ¬ (cs.length : Int) = x.cols := fun h => hs ⟨h1, h⟩
    have d3 : ((rs.length : Int) != x.rows) = false := by simpa using h1
    have d4 : ((cs.length : Int) != x.cols) = true := by simpa using h2
    clear hg hl hn1 hn2 hgo hwf h1 h2 hs
    go_enter Try.func22, Try.ntmps22
    refine seq_stop ?_
    go_wp2
    refine stop_go (fun W hW => ?_)
    have s1 : w.heap.size < W.heap.size := by rw [hW]; simp only [World.size_alloc]; omega
    have b1 : ∀ i, W.cell? ⟨w.heap.size, i, none⟩ = (#[.slice aD x.ws.length cD, .int .i64 x.off, .int .i64 x.rows, .int .i64 x.cols, .int .i64 x.ld] : Array Value)[i]? := by intro i; rw [hW]; go_simp
    have X1 : Box W (w.heap.size) #[.slice aD x.ws.length cD, .int .i64 x.off, .int .i64 x.rows, .int .i64 x.cols, .int .i64 x.ld] := by rw [hW]; exact Box.new' (by first | rfl | (simp only [World.size_alloc]; done) | (simp only [World.size_alloc]; omega))
    have f1 : ∀ i, W.frozen? ⟨w.heap.size, i, none⟩ = false := by intro i; rw [hW]; go_simp
    have g0 : Grew w W := by rw [hW]; exact (Grew.refl _).alloc _
    clear hW
    obtain ⟨p3, hp3⟩ : ∃ p, p = w.heap.size := ⟨_, rfl⟩
    have Y3 : Box W p3 #[.slice aD x.ws.length cD, .int .i64 x.off, .int .i64 x.rows, .int .i64 x.cols, .int .i64 x.ld] := by rw [hp3]; exact X1
    have hDW := hD.grew g0
    have t3 := Y3.cell
    have l3 := Y3.lt
    simp only [← hp3]
    clear X1 b1 s1 f1 hp3
    go_upto_region 6 with (first | (go_at_call 101; ((with_reducible refine (awake15 _).mono ?_); rintro e w1 ⟨rfl, o1, n1, rfl⟩)) | (go_at_call 42; ((with_reducible refine (hgt _ (hDW.grew (by (show Grew _ _; (try simp only [← Array.append_assoc]); repeat (first | (with_reducible exact Grew.same_o) | (with_reducible exact Grew.refl _) | (with_reducible assumption) | (with_reducible refine Grew.alloc ?_ _) | (with_reducible refine Grew.app_r ?_) | ((with_reducible refine Grew.setCell ?_ ?_ _); rotate_left; (focus (dsimp only; first | omega | (simp only [size_ext, World.size_alloc, Array.size_append]; omega)))) | (with_reducible refine Grew.ext ?_ _ _) | (with_reducible refine Grew.drewN ?_ _) | (with_reducible refine Grew.drew ?_)))))).mono ?_); rintro e w1 ⟨rfl, o2, n2, rfl⟩)) | (go_at_call 43; ((with_reducible refine (hap _ (hDW.grew (by (show Grew _ _; (try simp only [← Array.append_assoc]); repeat (first | (with_reducible exact Grew.same_o) | (with_reducible exact Grew.refl _) | (with_reducible assumption) | (with_reducible refine Grew.alloc ?_ _) | (with_reducible refine Grew.app_r ?_) | ((with_reducible refine Grew.setCell ?_ ?_ _); rotate_left; (focus (dsimp only; first | omega | (simp only [size_ext, World.size_alloc, Array.size_append]; omega)))) | (with_reducible refine Grew.ext ?_ _ _) | (with_reducible refine Grew.drewN ?_ _) | (with_reducible refine Grew.drew ?_)))))).mono ?_); rintro e w1 ⟨va, vc, rfl, hv, o3, n3, rfl⟩; (try simp only [drew_ext, drewN_ext, ext_ext, Array.append_assoc] at hv))))
    refine name_any (fun V hV => ?_)
    obtain ⟨p7, hp7⟩ : ∃ p, p = W.heap.size + (o1.size + (o2.size + o3.size)) := ⟨_, rfl⟩
    have gV : Grew W V := by rw [← hV]; (show Grew _ _; (try simp only [← Array.append_assoc]); repeat (first | (with_reducible exact Grew.same_o) | (with_reducible exact Grew.refl _) | (with_reducible assumption) | (with_reducible refine Grew.alloc ?_ _) | (with_reducible refine Grew.app_r ?_) | ((with_reducible refine Grew.setCell ?_ ?_ _); rotate_left; (focus (dsimp only; first | omega | (simp only [size_ext, World.size_alloc, Array.size_append]; omega)))) | (with_reducible refine Grew.ext ?_ _ _) | (with_reducible refine Grew.drewN ?_ _) | (with_reducible refine Grew.drew ?_)))
    have gw := Grew.trans g0 gV
    have Z3 := Y3.grew gV
    have Z7 : Box V p7 #[.slice va x.ws.length vc, .int .i64 x.off, .int .i64 x.rows, .int .i64 x.cols, .int .i64 x.ld] := by rw [← hV]; exact Box.new' (by rw [hp7]; simp only [size_ext, Array.size_append])
    have hvV : FS V (.slice va x.ws.length vc) x.ws := by rw [← hV]; exact hv.grew (by (show Grew _ _; (try simp only [← Array.append_assoc]); repeat (first | (with_reducible exact Grew.same_o) | (with_reducible exact Grew.refl _) | (with_reducible assumption) | (with_reducible refine Grew.alloc ?_ _) | (with_reducible refine Grew.app_r ?_) | ((with_reducible refine Grew.setCell ?_ ?_ _); rotate_left; (focus (dsimp only; first | omega | (simp only [size_ext, World.size_alloc, Array.size_append]; omega)))) | (with_reducible refine Grew.ext ?_ _ _) | (with_reducible refine Grew.drewN ?_ _) | (with_reducible refine Grew.drew ?_))))
    have hDV := hDW.grew gV
    have hXV := hVR.grew gw
    have hYV := hVC.grew gw
    have t3 := Z3.cell
    have l3 := Z3.lt
    have t7 := Z7.cell
    have l7 := Z7.lt
    simp only [← hp7]
    clear hV hp7 hv
    go_upto_region 7 with (first | (go_at_call 109; ((with_reducible refine (hsc _ _ _ (hvV.grew (by (show Grew _ _; (try simp only [← Array.append_assoc]); repeat (first | (with_reducible exact Grew.same_o) | (with_reducible exact Grew.refl _) | (with_reducible assumption) | (with_reducible refine Grew.alloc ?_ _) | (with_reducible refine Grew.app_r ?_) | ((with_reducible refine Grew.setCell ?_ ?_ _); rotate_left; (focus (dsimp only; first | omega | (simp only [size_ext, World.size_alloc, Array.size_append]; omega)))) | (with_reducible refine Grew.ext ?_ _ _) | (with_reducible refine Grew.drewN ?_ _) | (with_reducible refine Grew.drew ?_))))) (hXV.grew (by (show Grew _ _; (try simp only [← Array.append_assoc]); repeat (first | (with_reducible exact Grew.same_o) | (with_reducible exact Grew.refl _) | (with_reducible assumption) | (with_reducible refine Grew.alloc ?_ _) | (with_reducible refine Grew.app_r ?_) | ((with_reducible refine Grew.setCell ?_ ?_ _); rotate_left; (focus (dsimp only; first | omega | (simp only [size_ext, World.size_alloc, Array.size_append]; omega)))) | (with_reducible refine Grew.ext ?_ _ _) | (with_reducible refine Grew.drewN ?_ _) | (with_reducible refine Grew.drew ?_))))) (hYV.grew (by (show Grew _ _; (try simp only [← Array.append_assoc]); repeat (first | (with_reducible exact Grew.same_o) | (with_reducible exact Grew.refl _) | (with_reducible assumption) | (with_reducible refine Grew.alloc ?_ _) | (with_reducible refine Grew.app_r ?_) | ((with_reducible refine Grew.setCell ?_ ?_ _); rotate_left; (focus (dsimp only; first | omega | (simp only [size_ext, World.size_alloc, Array.size_append]; omega)))) | (with_reducible refine Grew.ext ?_ _ _) | (with_reducible refine Grew.drewN ?_ _) | (with_reducible refine Grew.drew ?_)))))).mono ?_); rintro e w1 ⟨rfl, o4, n4, rfl⟩)))
    refine name_any (fun U hU => ?_)
    obtain ⟨p8, hp8⟩ : ∃ p, p = V.heap.size + o4.size := ⟨_, rfl⟩
    have gU : Grew V U := by rw [← hU]; (show Grew _ _; (try simp only [← Array.append_assoc]); repeat (first | (with_reducible exact Grew.same_o) | (with_reducible exact Grew.refl _) | (with_reducible assumption) | (with_reducible refine Grew.alloc ?_ _) | (with_reducible refine Grew.app_r ?_) | ((with_reducible refine Grew.setCell ?_ ?_ _); rotate_left; (focus (dsimp only; first | omega | (simp only [size_ext, World.size_alloc, Array.size_append]; omega)))) | (with_reducible refine Grew.ext ?_ _ _) | (with_reducible refine Grew.drewN ?_ _) | (with_reducible refine Grew.drew ?_)))
    have gwU := Grew.trans gw gU
    have Z8 : Box U p8 #[.slice none 0 0, .int .i64 0, .int .i64 0, .int .i64 0, .int .i64 0] := by rw [← hU]; exact Box.new' (by rw [hp8]; simp only [size_ext, Array.size_append])
    have hvU := hvV.grew gU
    have hDU := hDV.grew gU
    have hXU := hXV.grew gU
    have hYU := hYV.grew gU
    have t3 := (Z3.grew gU).cell
    have l3 := (Z3.grew gU).lt
    have t7 := (Z7.grew gU).cell
    have l7 := (Z7.grew gU).lt
    have t8 := Z8.cell
    have l8 := Z8.lt
    simp only [← hp8]
    clear hU hp8
    go_wp2_with (first | (go_at_call 111; ((with_reducible refine (hex _ _ _ (hvU.grew (by (show Grew _ _; (try simp only [← Array.append_assoc]); repeat (first | (with_reducible exact Grew.same_o) | (with_reducible exact Grew.refl _) | (with_reducible assumption) | (with_reducible refine Grew.alloc ?_ _) | (with_reducible refine Grew.app_r ?_) | ((with_reducible refine Grew.setCell ?_ ?_ _); rotate_left; (focus (dsimp only; first | omega | (simp only [size_ext, World.size_alloc, Array.size_append]; omega)))) | (with_reducible refine Grew.ext ?_ _ _) | (with_reducible refine Grew.drewN ?_ _) | (with_reducible refine Grew.drew ?_))))) (hXU.grew (by (show Grew _ _; (try simp only [← Array.append_assoc]); repeat (first | (with_reducible exact Grew.same_o) | (with_reducible exact Grew.refl _) | (with_reducible assumption) | (with_reducible refine Grew.alloc ?_ _) | (with_reducible refine Grew.app_r ?_) | ((with_reducible refine Grew.setCell ?_ ?_ _); rotate_left; (focus (dsimp only; first | omega | (simp only [size_ext, World.size_alloc, Array.size_append]; omega)))) | (with_reducible refine Grew.ext ?_ _ _) | (with_reducible refine Grew.drewN ?_ _) | (with_reducible refine Grew.drew ?_))))) (hYU.grew (by (show Grew _ _; (try simp only [← Array.append_assoc]); repeat (first | (with_reducible exact Grew.same_o) | (with_reducible exact Grew.refl _) | (with_reducible assumption) | (with_reducible refine Grew.alloc ?_ _) | (with_reducible refine Grew.app_r ?_) | ((with_reducible refine Grew.setCell ?_ ?_ _); rotate_left; (focus (dsimp only; first | omega | (simp only [size_ext, World.size_alloc, Array.size_append]; omega)))) | (with_reducible refine Grew.ext ?_ _ _) | (with_reducible refine Grew.drewN ?_ _) | (with_reducible refine Grew.drew ?_)))))).mono ?_); rintro e w1 ⟨rfl, o5, n5, rfl⟩)) | (go_at_call 47; ((with_reducible refine (hall _ _ _ (hvU.grew (by (show Grew _ _; (try simp only [← Array.append_assoc]); repeat (first | (with_reducible exact Grew.same_o) | (with_reducible exact Grew.refl _) | (with_reducible assumption) | (with_reducible refine Grew.alloc ?_ _) | (with_reducible refine Grew.app_r ?_) | ((with_reducible refine Grew.setCell ?_ ?_ _); rotate_left; (focus (dsimp only; first | omega | (simp only [size_ext, World.size_alloc, Array.size_append]; omega)))) | (with_reducible refine Grew.ext ?_ _ _) | (with_reducible refine Grew.drewN ?_ _) | (with_reducible refine Grew.drew ?_))))) (hDU.grew (by (show Grew _ _; (try simp only [← Array.append_assoc]); repeat (first | (with_reducible exact Grew.same_o) | (with_reducible exact Grew.refl _) | (with_reducible assumption) | (with_reducible refine Grew.alloc ?_ _) | (with_reducible refine Grew.app_r ?_) | ((with_reducible refine Grew.setCell ?_ ?_ _); rotate_left; (focus (dsimp only; first | omega | (simp only [size_ext, World.size_alloc, Array.size_append]; omega)))) | (with_reducible refine Grew.ext ?_ _ _) | (with_reducible refine Grew.drewN ?_ _) | (with_reducible refine Grew.drew ?_)))))).mono ?_); rintro e w1 ⟨rfl, o6, n6, rfl⟩)) | (go_at_call 46; ((with_reducible refine (hgd _ (hDU.grew (by (show Grew _ _; (try simp only [← Array.append_assoc]); repeat (first | (with_reducible exact Grew.same_o) | (with_reducible exact Grew.refl _) | (with_reducible assumption) | (with_reducible refine Grew.alloc ?_ _) | (with_reducible refine Grew.app_r ?_) | ((with_reducible refine Grew.setCell ?_ ?_ _); rotate_left; (focus (dsimp only; first | omega | (simp only [size_ext, World.size_alloc, Array.size_append]; omega)))) | (with_reducible refine Grew.ext ?_ _ _) | (with_reducible refine Grew.drewN ?_ _) | (with_reducible refine Grew.drew ?_)))))).mono ?_); rintro e w1 ⟨rfl, o7, n7, rfl⟩)) | (go_at_call 101; ((with_reducible refine (awake15 _).mono ?_); rintro e w9 ⟨rfl, o9, n9, rfl⟩)))
    go_ret
    exact ⟨rfl, Grew.trans gwU (by (show Grew _ _; (try simp only [← Array.append_assoc]); repeat (first | (with_reducible exact Grew.same_o) | (with_reducible exact Grew.refl _) | (with_reducible assumption) | (with_reducible refine Grew.alloc ?_ _) | (with_reducible refine Grew.app_r ?_) | ((with_reducible refine Grew.setCell ?_ ?_ _); rotate_left; (focus (dsimp only; first | omega | (simp only [size_ext, World.size_alloc, Array.size_append]; omega)))) | (with_reducible refine Grew.ext ?_ _ _) | (with_reducible refine Grew.drewN ?_ _) | (with_reducible refine Grew.drew ?_))))⟩
  · have d3 : ((rs.length : Int) != x.rows) = true := by simpa using h1
    clear hg hl hn1 hn2 hgo hwf h1 hs
    go_enter Try.func22, Try.ntmps22
    refine seq_stop ?_
    go_wp2
    refine stop_go (fun W hW => ?_)
    have s1 : w.heap.size < W.heap.size := by rw [hW]; simp only [World.size_alloc]; omega
    have b1 : ∀ i, W.cell? ⟨w.heap.size, i, none⟩ = (#[.slice aD x.ws.length cD, .int .i64 x.off, .int .i64 x.rows, .int .i64 x.cols, .int .i64 x.ld] : Array Value)[i]? := by intro i; rw [hW]; go_simp
    have X1 : Box W (w.heap.size) #[.slice aD x.ws.length cD, .int .i64 x.off, .int .i64 x.rows, .int .i64 x.cols, .int .i64 x.ld] := by rw [hW]; exact Box.new' (by first | rfl | (simp only [World.size_alloc]; done) | (simp only [World.size_alloc]; omega))
    have f1 : ∀ i, W.frozen? ⟨w.heap.size, i, none⟩ = false := by intro i; rw [hW]; go_simp
    have g0 : Grew w W := by rw [hW]; exact (Grew.refl _).alloc _
    clear hW
    obtain ⟨p3, hp3⟩ : ∃ p, p = w.heap.size := ⟨_, rfl⟩
    have Y3 : Box W p3 #[.slice aD x.ws.length cD, .int .i64 x.off, .int .i64 x.rows, .int .i64 x.cols, .int .i64 x.ld] := by rw [hp3]; exact X1
    have hDW := hD.grew g0
    have t3 := Y3.cell
    have l3 := Y3.lt
    simp only [← hp3]
    clear X1 b1 s1 f1 hp3
    go_upto_region 6 with (first | (go_at_call 101; ((with_reducible refine (awake15 _).mono ?_); rintro e w1 ⟨rfl, o1, n1, rfl⟩)) | (go_at_call 42; ((with_reducible refine (hgt _ (hDW.grew (by (show Grew _ _; (try simp only [← Array.append_assoc]); repeat (first | (with_reducible exact Grew.same_o) | (with_reducible exact Grew.refl _) | (with_reducible assumption) | (with_reducible refine Grew.alloc ?_ _) | (with_reducible refine Grew.app_r ?_) | ((with_reducible refine Grew.setCell ?_ ?_ _); rotate_left; (focus (dsimp only; first | omega | (simp only [size_ext, World.size_alloc, Array.size_append]; omega)))) | (with_reducible refine Grew.ext ?_ _ _) | (with_reducible refine Grew.drewN ?_ _) | (with_reducible refine Grew.drew ?_)))))).mono ?_); rintro e w1 ⟨rfl, o2, n2, rfl⟩)) | (go_at_call 43; ((with_reducible refine (hap _ (hDW.grew (by (show Grew _ _; (try simp only [← Array.append_assoc]); repeat (first | (with_reducible exact Grew.same_o) | (with_reducible exact Grew.refl _) | (with_reducible assumption) | (with_reducible refine Grew.alloc ?_ _) | (with_reducible refine Grew.app_r ?_) | ((with_reducible refine Grew.setCell ?_ ?_ _); rotate_left; (focus (dsimp only; first | omega | (simp only [size_ext, World.size_alloc, Array.size_append]; omega)))) | (with_reducible refine Grew.ext ?_ _ _) | (with_reducible refine Grew.drewN ?_ _) | (with_reducible refine Grew.drew ?_)))))).mono ?_); rintro e w1 ⟨va, vc, rfl, hv, o3, n3, rfl⟩; (try simp only [drew_ext, drewN_ext, ext_ext, Array.append_assoc] at hv))))
    refine name_any (fun V hV => ?_)
    obtain ⟨p7, hp7⟩ : ∃ p, p = W.heap.size + (o1.size + (o2.size + o3.size)) := ⟨_, rfl⟩
    have gV : Grew W V := by rw [← hV]; (show Grew _ _; (try simp only [← Array.append_assoc]); repeat (first | (with_reducible exact Grew.same_o) | (with_reducible exact Grew.refl _) | (with_reducible assumption) | (with_reducible refine Grew.alloc ?_ _) | (with_reducible refine Grew.app_r ?_) | ((with_reducible refine Grew.setCell ?_ ?_ _); rotate_left; (focus (dsimp only; first | omega | (simp only [size_ext, World.size_alloc, Array.size_append]; omega)))) | (with_reducible refine Grew.ext ?_ _ _) | (with_reducible refine Grew.drewN ?_ _) | (with_reducible refine Grew.drew ?_)))
    have gw := Grew.trans g0 gV
    have Z3 := Y3.grew gV
    have Z7 : Box V p7 #[.slice va x.ws.length vc, .int .i64 x.off, .int .i64 x.rows, .int .i64 x.cols, .int .i64 x.ld] := by rw [← hV]; exact Box.new' (by rw [hp7]; simp only [size_ext, Array.size_append])
    have hvV : FS V (.slice va x.ws.length vc) x.ws := by rw [← hV]; exact hv.grew (by (show Grew _ _; (try simp only [← Array.append_assoc]); repeat (first | (with_reducible exact Grew.same_o) | (with_reducible exact Grew.refl _) | (with_reducible assumption) | (with_reducible refine Grew.alloc ?_ _) | (with_reducible refine Grew.app_r ?_) | ((with_reducible refine Grew.setCell ?_ ?_ _); rotate_left; (focus (dsimp only; first | omega | (simp only [size_ext, World.size_alloc, Array.size_append]; omega)))) | (with_reducible refine Grew.ext ?_ _ _) | (with_reducible refine Grew.drewN ?_ _) | (with_reducible refine Grew.drew ?_))))
    have hDV := hDW.grew gV
    have hXV := hVR.grew gw
    have hYV := hVC.grew gw
    have t3 := Z3.cell
    have l3 := Z3.lt
    have t7 := Z7.cell
    have l7 := Z7.lt
    simp only [← hp7]
    clear hV hp7 hv
    go_upto_region 7 with (first | (go_at_call 109; ((with_reducible refine (hsc _ _ _ (hvV.grew (by (show Grew _ _; (try simp only [← Array.append_assoc]); repeat (first | (with_reducible exact Grew.same_o) | (with_reducible exact Grew.refl _) | (with_reducible assumption) | (with_reducible refine Grew.alloc ?_ _) | (with_reducible refine Grew.app_r ?_) | ((with_reducible refine Grew.setCell ?_ ?_ _); rotate_left; (focus (dsimp only; first | omega | (simp only [size_ext, World.size_alloc, Array.size_append]; omega)))) | (with_reducible refine Grew.ext ?_ _ _) | (with_reducible refine Grew.drewN ?_ _) | (with_reducible refine Grew.drew ?_))))) (hXV.grew (by (show Grew _ _; (try simp only [← Array.append_assoc]); repeat (first | (with_reducible exact Grew.same_o) | (with_reducible exact Grew.refl _) | (with_reducible assumption) | (with_reducible refine Grew.alloc ?_ _) | (with_reducible refine Grew.app_r ?_) | ((with_reducible refine Grew.setCell ?_ ?_ _); rotate_left; (focus (dsimp only; first | omega | (simp only [size_ext, World.size_alloc, Array.size_append]; omega)))) | (with_reducible refine Grew.ext ?_ _ _) | (with_reducible refine Grew.drewN ?_ _) | (with_reducible refine Grew.drew ?_))))) (hYV.grew (by (show Grew _ _; (try simp only [← Array.append_assoc]); repeat (first | (with_reducible exact Grew.same_o) | (with_reducible exact Grew.refl _) | (with_reducible assumption) | (with_reducible refine Grew.alloc ?_ _) | (with_reducible refine Grew.app_r ?_) | ((with_reducible refine Grew.setCell ?_ ?_ _); rotate_left; (focus (dsimp only; first | omega | (simp only [size_ext, World.size_alloc, Array.size_append]; omega)))) | (with_reducible refine Grew.ext ?_ _ _) | (with_reducible refine Grew.drewN ?_ _) | (with_reducible refine Grew.drew ?_)))))).mono ?_); rintro e w1 ⟨rfl, o4, n4, rfl⟩)))
    refine name_any (fun U hU => ?_)
    obtain ⟨p8, hp8⟩ : ∃ p, p = V.heap.size + o4.size := ⟨_, rfl⟩
    have gU : Grew V U := by rw [← hU]; (show Grew _ _; (try simp only [← Array.append_assoc]); repeat (first | (with_reducible exact Grew.same_o) | (with_reducible exact Grew.refl _) | (with_reducible assumption) | (with_reducible refine Grew.alloc ?_ _) | (with_reducible refine Grew.app_r ?_) | ((with_reducible refine Grew.setCell ?_ ?_ _); rotate_left; (focus (dsimp only; first | omega | (simp only [size_ext, World.size_alloc, Array.size_append]; omega)))) | (with_reducible refine Grew.ext ?_ _ _) | (with_reducible refine Grew.drewN ?_ _) | (with_reducible refine Grew.drew ?_)))
    have gwU := Grew.trans gw gU
    have Z8 : Box U p8 #[.slice none 0 0, .int .i64 0, .int .i64 0, .int .i64 0, .int .i64 0] := by rw [← hU]; exact Box.new' (by rw [hp8]; simp only [size_ext, Array.size_append])
    have hvU := hvV.grew gU
    have hDU := hDV.grew gU
    have hXU := hXV.grew gU
    have hYU := hYV.grew gU
    have t3 := (Z3.grew gU).cell
    have l3 := (Z3.grew gU).lt
    have t7 := (Z7.grew gU).cell
    have l7 := (Z7.grew gU).lt
    have t8 := Z8.cell
    have l8 := Z8.lt
    simp only [← hp8]
    clear hU hp8
    go_wp2_with (first | (go_at_call 111; ((with_reducible refine (hex _ _ _ (hvU.grew (by (show Grew _ _; (try simp only [← Array.append_assoc]); repeat (first | (with_reducible exact Grew.same_o) | (with_reducible exact Grew.refl _) | (with_reducible assumption) | (with_reducible refine Grew.alloc ?_ _) | (with_reducible refine Grew.app_r ?_) | ((with_reducible refine Grew.setCell ?_ ?_ _); rotate_left; (focus (dsimp only; first | omega | (simp only [size_ext, World.size_alloc, Array.size_append]; omega)))) | (with_reducible refine Grew.ext ?_ _ _) | (with_reducible refine Grew.drewN ?_ _) | (with_reducible refine Grew.drew ?_))))) (hXU.grew (by (show Grew _ _; (try simp only [← Array.append_assoc]); repeat (first | (with_reducible exact Grew.same_o) | (with_reducible exact Grew.refl _) | (with_reducible assumption) | (with_reducible refine Grew.alloc ?_ _) | (with_reducible refine Grew.app_r ?_) | ((with_reducible refine Grew.setCell ?_ ?_ _); rotate_left; (focus (dsimp only; first | omega | (simp only [size_ext, World.size_alloc, Array.size_append]; omega)))) | (with_reducible refine Grew.ext ?_ _ _) | (with_reducible refine Grew.drewN ?_ _) | (with_reducible refine Grew.drew ?_))))) (hYU.grew (by (show Grew _ _; (try simp only [← Array.append_assoc]); repeat (first | (with_reducible exact Grew.same_o) | (with_reducible exact Grew.refl _) | (with_reducible assumption) | (with_reducible refine Grew.alloc ?_ _) | (with_reducible refine Grew.app_r ?_) | ((with_reducible refine Grew.setCell ?_ ?_ _); rotate_left; (focus (dsimp only; first | omega | (simp only [size_ext, World.size_alloc, Array.size_append]; omega)))) | (with_reducible refine Grew.ext ?_ _ _) | (with_reducible refine Grew.drewN ?_ _) | (with_reducible refine Grew.drew ?_)))))).mono ?_); rintro e w1 ⟨rfl, o5, n5, rfl⟩)) | (go_at_call 47; ((with_reducible refine (hall _ _ _ (hvU.grew (by (show Grew _ _; (try simp only [← Array.append_assoc]); repeat (first | (with_reducible exact Grew.same_o) | (with_reducible exact Grew.refl _) | (with_reducible assumption) | (with_reducible refine Grew.alloc ?_ _) | (with_reducible refine Grew.app_r ?_) | ((with_reducible refine Grew.setCell ?_ ?_ _); rotate_left; (focus (dsimp only; first | omega | (simp only [size_ext, World.size_alloc, Array.size_append]; omega)))) | (with_reducible refine Grew.ext ?_ _ _) | (with_reducible refine Grew.drewN ?_ _) | (with_reducible refine Grew.drew ?_))))) (hDU.grew (by (show Grew _ _; (try simp only [← Array.append_assoc]); repeat (first | (with_reducible exact Grew.same_o) | (with_reducible exact Grew.refl _) | (with_reducible assumption) | (with_reducible refine Grew.alloc ?_ _) | (with_reducible refine Grew.app_r ?_) | ((with_reducible refine Grew.setCell ?_ ?_ _); rotate_left; (focus (dsimp only; first | omega | (simp only [size_ext, World.size_alloc, Array.size_append]; omega)))) | (with_reducible refine Grew.ext ?_ _ _) | (with_reducible refine Grew.drewN ?_ _) | (with_reducible refine Grew.drew ?_)))))).mono ?_); rintro e w1 ⟨rfl, o6, n6, rfl⟩)) | (go_at_call 46; ((with_reducible refine (hgd _ (hDU.grew (by (show Grew _ _; (try simp only [← Array.append_assoc]); repeat (first | (with_reducible exact Grew.same_o) | (with_reducible exact Grew.refl _) | (with_reducible assumption) | (with_reducible refine Grew.alloc ?_ _) | (with_reducible refine Grew.app_r ?_) | ((with_reducible refine Grew.setCell ?_ ?_ _); rotate_left; (focus (dsimp only; first | omega | (simp only [size_ext, World.size_alloc, Array.size_append]; omega)))) | (with_reducible refine Grew.ext ?_ _ _) | (with_reducible refine Grew.drewN ?_ _) | (with_reducible refine Grew.drew ?_)))))).mono ?_); rintro e w1 ⟨rfl, o7, n7, rfl⟩)) | (go_at_call 101; ((with_reducible refine (awake15 _).mono ?_); rintro e w9 ⟨rfl, o9, n9, rfl⟩)))
    go_ret
    exact ⟨rfl, Grew.trans gwU (by (show Grew _ _; (try simp only [← Array.append_assoc]); repeat (first | (with_reducible exact Grew.same_o) | (with_reducible exact Grew.refl _) | (with_reducible assumption) | (with_reducible refine Grew.alloc ?_ _) | (with_reducible refine Grew.app_r ?_) | ((with_reducible refine Grew.setCell ?_ ?_ _); rotate_left; (focus (dsimp only; first | omega | (simp only [size_ext, World.size_alloc, Array.size_append]; omega)))) | (with_reducible refine Grew.ext ?_ _ _) | (with_reducible refine Grew.drewN ?_ _) | (with_reducible refine Grew.drew ?_))))⟩
end Go.Proofs.Ytcmggfpcbijcjaa
end
section
/-
  Finite numbers of a table, by columns and by rows; the plain law of EquilScales.
-/
set_option linter.unusedSimpArgs false
set_option linter.unusedVariables false
open Go Go.RowKit Sedge
namespace Go.Proofs.Ytcmggfpcbijcjaa
theorem finL_iff2 (ws : List Nat) : finL ws = true ↔ ∀ k, k < ws.length → finB (ws.getD k 0) = true := by
  unfold finL
  rw [List.all_eq_true]
  constructor
  · intro h k hk
    refine h _ ?_
    rw [List.getD_eq_getElem?_getD, List.getElem?_eq_getElem hk]; exact List.getElem_mem _
  · intro h x hx
    obtain ⟨k, hk, rfl⟩ := List.mem_iff_getElem.1 hx
    have := h k hk
    rw [List.getD_eq_getElem?_getD, List.getElem?_eq_getElem hk] at this
    exact this
theorem numL_getD2 (x : MatM) {i j : Nat} (hi : i < x.rows.toNat) (hj : j < x.cols.toNat) : (numL x).getD (j * x.rows.toNat + i) 0 = x.num i j := by
  unfold numL numTo
  have hk : j * x.rows.toNat + i < x.rows.toNat * x.cols.toNat := by
    have := Nat.mul_le_mul_right x.rows.toNat (show j + 1 ≤ x.cols.toNat by omega)
    rw [Nat.add_mul, Nat.mul_comm x.cols.toNat] at this; omega
  rw [List.getD_eq_getElem?_getD, List.getElem?_map, List.getElem?_range hk]
  show x.num ((j * x.rows.toNat + i) % x.rows.toNat) ((j * x.rows.toNat + i) / x.rows.toNat) = _
  rw [Nat.add_comm, Nat.add_mul_mod_self_right, Nat.mod_eq_of_lt hi, Nat.add_mul_div_right _ _ (by omega), Nat.div_eq_of_lt hi, Nat.zero_add]
theorem numL_length2 (x : MatM) : (numL x).length = x.rows.toNat * x.cols.toNat := by simp [numL, numTo]
theorem fin_tab2 (x : MatM) : finL x.tab = finL (numL x) := by
  have h1 : finL x.tab = true ↔ finL (numL x) = true := by
    rw [finL_iff2, finL_iff2, MatM.tab_length, numL_length2]
    constructor
    · intro h k hk
      have hR : 0 < x.rows.toNat := Nat.pos_of_ne_zero (fun e => by rw [e] at hk; omega)
      have h2 : k % x.rows.toNat < x.rows.toNat := Nat.mod_lt _ hR
      have h3 : k / x.rows.toNat < x.cols.toNat := by rw [Nat.div_lt_iff_lt_mul hR, Nat.mul_comm]; exact hk
      have e : k = k / x.rows.toNat * x.rows.toNat + k % x.rows.toNat := (Nat.div_add_mod' k _).symm
      rw [e, numL_getD2 x h2 h3, ← x.tab_hold.get _ _ h2 h3]
      refine h _ ?_
      exact at_lt h2 h3
    · intro h k hk
      have hC : 0 < x.cols.toNat := Nat.pos_of_ne_zero (fun e => by rw [e] at hk; omega)
      have h2 : k % x.cols.toNat < x.cols.toNat := Nat.mod_lt _ hC
      have h3 : k / x.cols.toNat < x.rows.toNat := by rw [Nat.div_lt_iff_lt_mul hC]; exact hk
      have e : k = k / x.cols.toNat * x.cols.toNat + k % x.cols.toNat := (Nat.div_add_mod' k _).symm
      rw [e]
      have := x.tab_hold.get _ _ h3 h2
      rw [show x.tab.getD (k / x.cols.toNat * x.cols.toNat + k % x.cols.toNat) 0 = x.num (k / x.cols.toNat) (k % x.cols.toNat) from this, ← numL_getD2 x h3 h2]
      refine h _ ?_
      have := Nat.mul_le_mul_right x.rows.toNat (show k % x.cols.toNat + 1 ≤ x.cols.toNat by omega)
      rw [Nat.add_mul, Nat.mul_comm x.cols.toNat] at this; omega
  cases h2 : finL x.tab <;> cases h3 : finL (numL x) <;> simp_all
theorem tab_ext {R C : Nat} {l m : List Nat} (hl : l.length = R * C) (hm : m.length = R * C) (h : ∀ i j, i < R → j < C → l.getD (i * C + j) 0 = m.getD (i * C + j) 0) : l = m := by
  apply List.ext_getElem (hl.trans hm.symm)
  intro k h1 h2
  have hk : k < R * C := by omega
  have hC : 0 < C := Nat.pos_of_ne_zero (fun e => by rw [e] at hk; omega)
  have q2 : k % C < C := Nat.mod_lt _ hC
  have q3 : k / C < R := by rw [Nat.div_lt_iff_lt_mul hC]; exact hk
  have e : k = k / C * C + k % C := (Nat.div_add_mod' k _).symm
  have := h _ _ q3 q2
  rw [← e, List.getD_eq_getElem?_getD, List.getD_eq_getElem?_getD, List.getElem?_eq_getElem h1, List.getElem?_eq_getElem h2] at this
  simpa using this
end Go.Proofs.Ytcmggfpcbijcjaa
end
section
/-
  Contracts: straightedgeref08.held, Shift.
-/
set_option linter.unusedSimpArgs false
set_option linter.unusedVariables false
open Go Go.RowKit Sedge
namespace Go.Proofs.Ytcmggfpcbijcjaa
set_option maxRecDepth 100000 in
/-- straightedgeref08.held. -/
theorem rheld_any (k : Int) (w : World) : Calls Try.prog 187 #[.int .i64 k] w (fun e w' => e = .returned (.int .i64 (heldZ k)) ∧ w = w') := by
  by_cases h1 : 1073741824 < k
  · rw [show heldZ k = 1073741824 by unfold heldZ; omega]
    go_enter Try.func187, Try.ntmps187
    go_wp2
    go_ret
    exact ⟨rfl, rfl⟩
  · by_cases h2 : k < -1073741824
    · rw [show heldZ k = -1073741824 by unfold heldZ; omega]
      go_enter Try.func187, Try.ntmps187
      go_wp2
      go_ret
      exact ⟨rfl, rfl⟩
    · rw [show heldZ k = k by unfold heldZ; omega]
      go_enter Try.func187, Try.ntmps187
      go_wp2
      go_ret
      exact ⟨rfl, rfl⟩
set_option maxRecDepth 100000 in
set_option maxHeartbeats 4000000 in
/-- straightedgeref08.Shift. -/
theorem rshift_any (R C : Nat) (T : List Nat) (rs cs : List Int) (M : Nat → Nat → Nat) (A X Y : Value) (w : World) (hA : FS w A T) (hX : IS .i64 w X rs) (hY : IS .i64 w Y cs) (hx : rs.length = R) (hy : cs.length = C) (hT : T.length = R * C) (hM : Hold (fun i j => i * C + j) R C T T M) (hR : R ≤ 1000) (hC : C ≤ 1000) :
   Calls Try.prog 112 #[.agg #[.int .i64 R, .int .i64 C, A], X, Y] w (fun e w' => ∃ v t, e = .returned (.agg #[.int .i64 R, .int .i64 C, v]) ∧ WS w' w.heap.size v t ∧ Hold (fun i j => i * C + j) R C T t (fun i j => shF rs cs i j (M i j)) ∧ ∃ o n, w' = ext w o n) := by
  have hRC : R * C ≤ 1000 * 1000 := Nat.mul_le_mul hR hC
  have hpl : Places (fun i j => i * C + j) R C T.length := by rw [hT]; exact tabPlaces R C
  have HT := hid hT
  have Hx := hid hx
  have Hy := hid hy
  obtain ⟨aA, cA, rfl⟩ := hA.shape
  obtain ⟨aX, cX, rfl⟩ := hX.shape
  obtain ⟨aY, cY, rfl⟩ := hY.shape
  have hat : ∀ i j : Nat, i < R → j < C → ∀ w', FS w' (.slice aA T.length cA) T → Calls Try.prog 72 #[.agg #[.int .i64 R, .int .i64 C, .slice aA T.length cA], .int .i64 i, .int .i64 j] w' (fun e w2 => ∃ b, e = .returned (.float .f64 b) ∧ IsF b (M i j) ∧ ∃ o n, w2 = ext w' o n) := fun i j hi hj w' h => by
    have := rat_any R C i j (.slice aA T.length cA) T w' h hR hC (by omega) (by omega) (by rw [hT]; exact at_lt hi hj)
    rw [hM.get i j hi hj] at this; exact this
  have hcp : ∀ w', FS w' (.slice aA T.length cA) T → Calls Try.prog 140 #[.agg #[.int .i64 R, .int .i64 C, .slice aA T.length cA]] w' (fun e w2 => ∃ v, e = .returned (.agg #[.int .i64 R, .int .i64 C, v]) ∧ WS w2 w'.heap.size v T ∧ ∃ o n, w2 = ext w' o n) := fun w' h => mcopy_any R C _ T w' h (by omega)
  clear hT hx hy
  go_enter Try.func112, Try.ntmps112
  refine seq_stop ?_
  go_wp2
  refine stop_go (fun W hW => ?_)
  have s1 : w.heap.size < W.heap.size := by rw [hW]; simp only [World.size_alloc]; omega
  have b1 : ∀ i, W.cell? ⟨w.heap.size, i, none⟩ = (#[.int .i64 R, .int .i64 C, .slice aA T.length cA] : Array Value)[i]? := by intro i; rw [hW]; go_simp
  have f1 : ∀ i, W.frozen? ⟨w.heap.size, i, none⟩ = false := by intro i; rw [hW]; go_simp
  have s2 : w.heap.size + 1 < W.heap.size := by rw [hW]; simp only [World.size_alloc]; omega
  have b2 : ∀ i, W.cell? ⟨w.heap.size + 1, i, none⟩ = (#[.int .i64 0, .int .i64 0, .slice none 0 0] : Array Value)[i]? := by intro i; rw [hW]; go_simp
  have f2 : ∀ i, W.frozen? ⟨w.heap.size + 1, i, none⟩ = false := by intro i; rw [hW]; go_simp
  have g0 : Grew w W := by rw [hW]; exact ((Grew.refl _).alloc _).alloc _
  clear hW
  have hAW := hA.grew g0
  have hXW := hX.grew g0
  have hYW := hY.grew g0
  go_wp2_with (first | (go_at_call 140; ((with_reducible refine (hcp _ hAW).mono ?_); rintro e w1 ⟨v, rfl, ⟨g, cap, rfl, hg, hF, hgl⟩, oc, nc, rfl⟩)))
  refine name_any (fun V hV => ?_)
  have gV : Grew W V := by rw [← hV]; (show Grew _ _; repeat (first | (with_reducible exact Grew.refl _) | (with_reducible assumption) | (with_reducible exact Grew.same_o) | (with_reducible exact Grew.app_o) | (with_reducible refine Grew.ext ?_ _ _) | (with_reducible refine Grew.alloc ?_ _) | ((with_reducible refine Grew.setCell ?_ ?_ _); rotate_left; (focus (dsimp only; first | omega | (simp only [size_ext, World.size_alloc, Array.size_append]; omega)))) | (with_reducible refine Grew.drewN ?_ _) | (with_reducible refine Grew.drew ?_)))
  have zw := g0.below.size
  have zV := gV.below.size
  have hFV : FW V g T := by rw [← hV]; (repeat (first | (with_reducible assumption) | ((with_reducible refine FW.ext_set ?_ ?_ ?_ _); rotate_left; (focus (simp only [size_setCell', World.size_alloc, size_ext, size_upd]; omega)); (focus (dsimp only; omega))) | ((with_reducible refine FW.setCell_ne ?_ ?_ _); rotate_left; (focus (dsimp only; omega))) | (with_reducible refine FW.ext ?_ _ _) | (with_reducible refine FW.alloc ?_ _)))
  have cT : ∀ i, V.cell? ⟨W.heap.size + oc.size, i, none⟩ = (#[.int .i64 R, .int .i64 C, .slice (some ⟨g, 0, none⟩) T.length cap] : Array Value)[i]? := by subst hV; intro i; go_simp
  have kT : W.heap.size + oc.size < V.heap.size := by rw [← hV]; simp only [World.size_alloc, size_ext]; omega
  have ngT : W.heap.size + oc.size ≠ g := by have := hF.lt; simp only [size_ext] at this; omega
  obtain ⟨U, hU⟩ : ∃ U, W.heap.size + oc.size = U := ⟨_, rfl⟩
  have zU : W.heap.size ≤ U := by omega
  rw [hU] at cT kT ngT
  simp only [hU]
  have hG : ∀ k ∈ [g], W.heap.size ≤ k := by intro k hk; simp at hk; omega
  have hDu := But.fs gV hAW hG
  have hXu := But.is gV hXW hG
  have hYu := But.is gV hYW hG
  have c1 := But.boxW gV s1 b1 hG
  have c2 := But.boxW gV s2 b2 hG
  have z2 : ∀ w', But V [g] w' → ∀ i, w'.frozen? ⟨w.heap.size + 1, i, none⟩ = false := fun w' hb i => by
    have h1 := hb.block (w.heap.size + 1) (by omega) (by simp; omega)
    have h2 := (gV.frozen s2).trans (f2 i)
    unfold World.frozen? at h2 ⊢; simp only [h1] at h2 ⊢; exact h2
  have cU : ∀ w', But V [g] w' → ∀ i, w'.cell? ⟨U, i, none⟩ = (#[.int .i64 R, .int .i64 C, .slice (some ⟨g, 0, none⟩) T.length cap] : Array Value)[i]? := fun w' h i => (h.cell kT (by simpa using ngT)).trans (cT i)
  have kV : w.heap.size < V.heap.size := by omega
  have kV2 : w.heap.size + 1 < V.heap.size := by omega
  clear hV hU cT b1 b2 f1 f2 hF hcp
  go_loopw [8] (fun c wr => ∃ (i : Nat) (L : List Nat), i ≤ R ∧ c = .int .i64 i ∧ But V [g] wr ∧ FW wr g L ∧ Hold (fun i j => i * C + j) R C T L (stepR (fun i j => shF rs cs i j (M i j)) M i 0)) (fun c _ => R - (intOf c).toNat)
  case atStart => exact ⟨0, T, Nat.zero_le _, rfl, But.refl _ _, hFV, hM.congr fun i j _ _ => by simp [stepR]⟩
  case round =>
    obtain ⟨i, L, hi, rfl, hB, hL, hH⟩ := hrel
    have t1 := c1 _ hB
    have sB := hB.size
    have x1 : w.heap.size < wr.heap.size := by omega
    by_cases hlt : (i : Int) < R
    · have hiR : i < R := by omega
      go_wp2
      go_loopw [9] (fun c wr => ∃ (j : Nat) (L : List Nat), j ≤ C ∧ c = .int .i64 j ∧ But V [g] wr ∧ FW wr g L ∧ Hold (fun i j => i * C + j) R C T L (stepR (fun i j => shF rs cs i j (M i j)) M i j)) (fun c _ => C - (intOf c).toNat)
      case atStart => exact ⟨0, L, Nat.zero_le _, rfl, hB, hL, hH⟩
      case round =>
        obtain ⟨j, L2, hj, rfl, hB2, hL2, hH2⟩ := hrel
        have t1 := c1 _ hB2
        have tU := cU _ hB2
        have sB := hB2.size
        have x1 : w.heap.size < wr.heap.size := by omega
        have xU : U < wr.heap.size := by omega
        by_cases hl2 : (j : Int) < C
        · have hjC : j < C := by omega
          have hatij := hat i j hiR hjC
          have hgd := hH2.get i j hiR hjC
          have hset : ∀ w' r z, FW w' g L2 → IsF r z → Calls Try.prog 134 #[.agg #[.int .i64 R, .int .i64 C, .slice (some ⟨g, 0, none⟩) T.length cap], .int .i64 i, .int .i64 j, .float .f64 r] w' (fun e w2 => e = .returned (.tuple #[]) ∧ Wrote w' w2 g (L2.set (i * C + j) z)) := fun w' r z h1 h2 =>
            rset_any R C i j g cap T.length r z L2 w' h1 h2 hH2.len.symm hR hC (by omega) (by omega) (by rw [hH2.len, HT.out]; exact at_lt hiR hjC)
          obtain ⟨bx, ox, hax, hkx, hcx⟩ := hXW.at.2 (by rw [Hx.out]; omega)
          have hrx := hcx i (by rw [Hx.out]; omega)
          obtain ⟨bz, oz, haz, hkz, hcz⟩ := hYW.at.2 (by rw [Hy.out]; omega)
          have hry := hcz j (by rw [Hy.out]; omega)
          subst hax haz
          obtain ⟨rx, hrr⟩ : ∃ r, r = rs.getD i 0 := ⟨_, rfl⟩
          obtain ⟨ry, hcc⟩ : ∃ c, c = cs.getD j 0 := ⟨_, rfl⟩
          rw [← hrr] at hrx
          rw [← hcc] at hry
          have lx1 : i < rs.length := by rw [Hx.out]; omega
          have ly1 : j < cs.length := by rw [Hy.out]; omega
          have crx : ∀ w', But V [g] w' → w'.cell? ⟨bx, ox + i, none⟩ = some (.int .i64 rx) := fun w' h => (h.cell (by omega) (by simp; omega)).trans ((gV.cell hkx).trans hrx)
          have cry : ∀ w', But V [g] w' → w'.cell? ⟨bz, oz + j, none⟩ = some (.int .i64 ry) := fun w' h => (h.cell (by omega) (by simp; omega)).trans ((gV.cell hkz).trans hry)
          have i1 := heldZ_in rx
          have i2 := heldZ_in ry
          have H1 := fun w' => rheld_any rx w'
          have H2 := fun w' => rheld_any ry w'
          obtain ⟨HA, hHA⟩ : ∃ A, A = heldZ rx := ⟨_, rfl⟩
          obtain ⟨HB, hHB⟩ : ∃ B, B = heldZ ry := ⟨_, rfl⟩
          simp only [← hHA] at H1 i1
          simp only [← hHB] at H2 i2
          have rw1 : IntKind.i64.wrap (HA + HB) = HA + HB := IntWalk.i64_in _ (by omega)
          have H3 := fun w' => rheld_any (HA + HB) w'
          obtain ⟨HE, hHE⟩ : ∃ E, E = heldZ (HA + HB) := ⟨_, rfl⟩
          simp only [← hHE] at H3
          have hSF : fscale (M i j) HE = shF rs cs i j (M i j) := by unfold shF; rw [← hrr, ← hcc, ← hHA, ← hHB, ← hHE]
          have HSF := hid hSF
          clear hrr hcc hHA hHB hHE hSF
          clear hcx hcz hrx hry
          go_wp2
          refine wp_region_R (But V [g]) [] [(0,0), (0,1), (0,2), (0,3), (0,4), (0,5), (0,7), (0,8), (0,9), (0,10), (0,12), (0,13), (0,14), (0,15), (1,6), (1,11), (1,16), (0,17), (1,18), (1,19), (1,20)] (by kernel_rfl) (by kernel_rfl) (fun _ _ _ _ h _ => h) (hB2.grew ((Grew.refl _).drew)) ?_
          refine name_any (fun V6 hV6 => ?_)
          have hg6 : Grew wr V6 := by rw [← hV6]; (show Grew _ _; repeat (first | (with_reducible exact Grew.refl _) | (with_reducible assumption) | (with_reducible exact Grew.same_o) | (with_reducible exact Grew.app_o) | (with_reducible refine Grew.ext ?_ _ _) | (with_reducible refine Grew.alloc ?_ _) | ((with_reducible refine Grew.setCell ?_ ?_ _); rotate_left; (focus (dsimp only; first | omega | (simp only [size_ext, World.size_alloc, Array.size_append]; omega)))) | (with_reducible refine Grew.drewN ?_ _) | (with_reducible refine Grew.drew ?_)))
          have B6 := hB2.grew hg6
          have F6 := hL2.grew hg6
          clear hV6 hg6
          go_wp2_with (first | ((with_reducible refine wpR_id ?_); first | (refine wpR_take (v := ?_) rfl rfl ?_ ?_; rotate_left; (focus (intro w' hw'; go_simp; try with_reducible rfl)); simp only [Act.put, List.setIfInBounds_toArray, List.set_cons_zero, List.set_cons_succ]) | (refine wpR_pure (v := ?_) rfl rfl ?_ ?_; rotate_left; (focus (intro w'; go_simp; try with_reducible rfl)); simp only [Act.put, List.setIfInBounds_toArray, List.set_cons_zero, List.set_cons_succ]) | (refine wpR_takeG (v := ?_) rfl rfl rfl rfl rfl ?_ ?_; rotate_left; (focus (intro w' hw'; go_simp; try with_reducible rfl)); simp only [Act.put, List.setIfInBounds_toArray, List.set_cons_zero, List.set_cons_succ]) | (refine wpR_skip rfl rfl rfl rfl rfl rfl ?_; simp only [Act.put, List.setIfInBounds_toArray, List.set_cons_zero, List.set_cons_succ]) | (refine wpR_skipU rfl rfl rfl rfl rfl ?_; simp only [Act.put, List.setIfInBounds_toArray, List.set_cons_zero, List.set_cons_succ]) | (refine wpR_do rfl rfl (fun K hK => ?_)) | (refine wpR_doG rfl rfl rfl rfl rfl (fun K hK => ?_)) | (refine wpR_last rfl rfl (fun K hK => ?_)) | (refine wpR_nil ?_)) | ((with_reducible refine wpR_go ?_ ?_); (focus (with_reducible assumption))) | ((with_reducible refine upon_id ?_); refine upon_fop rfl (by assumption) (by assumption) ?_; intro rr nn hr) | (go_at_call 72; ((with_reducible refine (hatij _ (hDu _ (by assumption))).mono ?_); rintro e w1 ⟨r1, rfl, hr1, hw1⟩; (have B7 := B6.grew hw1; have F7 := F6.grew hw1))) | (go_at_call 187; ((with_reducible refine (H1 _).mono ?_); rintro e w9 ⟨rfl, rfl⟩)) | (go_at_call 187; ((with_reducible refine (H2 _).mono ?_); rintro e w9 ⟨rfl, rfl⟩)) | (go_at_call 187; ((with_reducible refine (H3 _).mono ?_); rintro e w9 ⟨rfl, rfl⟩)) | (go_at_call 165; ((with_reducible refine (rscale_any r1 _ HE _ hr1).mono ?_); rintro e w9 ⟨r4, rfl, hr4, rfl⟩)) | (go_at_call 134; ((with_reducible refine (hset _ r4 _ F7 hr4).mono ?_); rintro e w1 ⟨rfl, hw5⟩; (have B11 := B7.wrote hw5 (.inl (by simp))))))
          go_roundw
          case rel =>
            refine ⟨j + 1, _, by omega, by go_num, B11, hw5.fw F7, (hH2.set hpl hiR hjC).congr fun r c hr hc => ?_⟩
            unfold stepR
            by_cases hrc : r = i ∧ c = j
            · obtain ⟨rfl, rfl⟩ := hrc
              simp [HSF.out]
            · rw [if_neg hrc]
              by_cases h2 : r < i ∨ (r = i ∧ c < j)
              · rw [if_pos h2, if_pos (by omega)]
              · rw [if_neg h2, if_neg (by omega)]
          case measure => simp [intOf]; omega
        · have e : j = C := by omega
          go_wp2
          go_roundw
          case rel =>
            refine ⟨i + 1, L2, by omega, by go_num, hB2, hL2, hH2.congr fun r c hr hc => ?_⟩
            unfold stepR
            by_cases h2 : r < i ∨ (r = i ∧ c < j)
            · rw [if_pos h2, if_pos (by omega)]
            · rw [if_neg h2, if_neg (by omega)]
          case measure => simp [intOf]; omega
    · have e : i = R := by omega
      have t2 := c2 _ hB
      have tU := cU _ hB
      have zz := z2 _ hB
      have x2 : w.heap.size + 1 < wr.heap.size := by omega
      have xU : U < wr.heap.size := by omega
      go_wp2
      refine bodyPost_ret (v := .agg #[.int .i64 R, .int .i64 C, .slice (some ⟨g, 0, none⟩) T.length cap]) (by simp [results, Try.results112, go_sem, *]) rfl ?_
      have gwr : Grew w wr := g0.trans (hB.grew0 gV hG)
      have hlL : L.length = T.length := hH.len
      refine ⟨_, rfl, L, ⟨g, cap, by rw [hlL], by omega, by (repeat (first | (with_reducible assumption) | ((with_reducible refine FW.ext_set ?_ ?_ ?_ _); rotate_left; (focus (simp only [size_setCell', World.size_alloc, size_ext, size_upd]; omega)); (focus (dsimp only; omega))) | ((with_reducible refine FW.setCell_ne ?_ ?_ _); rotate_left; (focus (dsimp only; omega))) | (with_reducible refine FW.ext ?_ _ _) | (with_reducible refine FW.alloc ?_ _))), by rw [hlL]; omega⟩, hH.congr fun r c hr hc => ?_, by (show Grew _ _; repeat (first | (with_reducible exact Grew.refl _) | (with_reducible assumption) | (with_reducible exact Grew.same_o) | (with_reducible exact Grew.app_o) | (with_reducible refine Grew.ext ?_ _ _) | (with_reducible refine Grew.alloc ?_ _) | ((with_reducible refine Grew.setCell ?_ ?_ _); rotate_left; (focus (dsimp only; first | omega | (simp only [size_ext, World.size_alloc, Array.size_append]; omega)))) | (with_reducible refine Grew.drewN ?_ _) | (with_reducible refine Grew.drew ?_)))⟩
      unfold stepR
      rw [if_pos (by omega)]
end Go.Proofs.Ytcmggfpcbijcjaa
end
section
/-
  Contracts: the reference's digits (layer 2): Made.
-/
set_option linter.unusedSimpArgs false
set_option linter.unusedVariables false
open Go Go.RowKit Sedge
namespace Go.Proofs.Ytcmggfpcbijcjaa
set_option maxRecDepth 100000 in
set_option maxHeartbeats 2000000 in
/-- Made. -/
theorem made_any (neg : Bool) (L : Value) (l : List Nat) (E : Int) (w : World) (hL : NS w L l) (hg : Dg l) (hl : l.length ≤ 1000000) (hE : -1000000 ≤ E ∧ E ≤ 1000000) :
   Calls Try.prog 120 #[.bool neg, L, .int .i64 E] w (fun e w' => ∃ v, e = .returned v ∧ DV w' v (dat neg (dv l) (16 * E)) E (E + l.length) ∧ (∀ k, dBlock v = some k → L.ownBlock = some k) ∧ ∃ o n, w' = ext w o n) := by
  obtain ⟨q0, hq0⟩ : ∃ q0, q0 = dat neg (dv l) (16 * E) := ⟨_, rfl⟩
  rw [← hq0]
  go_enter Try.func120, Try.ntmps120
  go_upto_block 0 with fail
  refine name_any (fun W hW => ?_)
  have g0 : Grew w W := by rw [← hW]; (show Grew _ _; repeat (first | (with_reducible exact Grew.refl _) | (with_reducible assumption) | (with_reducible exact Grew.same_o) | (with_reducible exact Grew.app_o) | (with_reducible refine Grew.ext ?_ _ _) | (with_reducible refine Grew.alloc ?_ _) | ((with_reducible refine Grew.setCell ?_ ?_ _); rotate_left; (focus (dsimp only; first | omega | (simp only [size_ext, World.size_alloc, Array.size_append]; omega)))) | (with_reducible refine Grew.drewN ?_ _) | (with_reducible refine Grew.drew ?_)))
  have s1 : w.heap.size < W.heap.size := by rw [← hW]; simp only [World.size_alloc]; omega
  have f1 : ∀ i, W.frozen? ⟨w.heap.size, i, none⟩ = false := by subst hW; intro i; go_simp
  have b1 : ∀ i, W.cell? ⟨w.heap.size, i, none⟩ = (#[.bool false, .slice none 0 0, .int .i64 0] : Array Value)[i]? := by subst hW; intro i; go_simp
  have hLW := hL.grew g0
  clear hW
  go_cut [1, 2] (fun c d wx => ∃ (l' : List Nat) (E' : Int), d = .int .i64 E' ∧ NS w c l' ∧ Dg l' ∧ q0 = dat neg (dv l') (16 * E') ∧ E ≤ E' ∧ E' + l'.length = E + l.length ∧ (∀ k, c.ownBlock = some k → L.ownBlock = some k) ∧ wx = W)
  case first =>
    go_wp2_with fail
    go_loopw [1, 2] (fun c d wx => ∃ (l' : List Nat) (E' : Int), d = .int .i64 E' ∧ NS w c l' ∧ Dg l' ∧ q0 = dat neg (dv l') (16 * E') ∧ E ≤ E' ∧ E' + l'.length = E + l.length ∧ (∀ k, c.ownBlock = some k → L.ownBlock = some k) ∧ wx = W) (fun c _ _ => lenOf c)
    case atStart => exact ⟨l, E, rfl, hL, hg, hq0, Int.le_refl _, rfl, fun _ h => h, rfl⟩
    case round =>
      obtain ⟨l', E', rfl, hN, hD, hQ, h1, h2, hob, hwr⟩ := hrel
      have HOB := hid hob
      clear hob
      subst hwr
      have HQ := hid hQ
      clear hQ
      cases l' with
      | nil =>
        obtain ⟨a, cap, rfl⟩ := hN.shape
        go_wp2
        go_meet
        exact ⟨[], E', rfl, hN, hD, HQ.out, h1, h2, HOB.out, by trivial⟩
      | cons x l' =>
        obtain ⟨blk, o, cap, rfl, hblk, hcap, hc⟩ := hN.open (by simp)
        have hc0 := (g0.cell hblk).trans (hc 0 (by simp))
        rw [Nat.add_zero] at hc0
        change _ = some (Value.int .i64 (x : Int)) at hc0
        clear hc
        by_cases h0 : x = 0
        · subst h0
          have hT := hN.tail'
          have hb : E' ≤ 2000000 := by simp at h2; omega
          have HL := hid h2
          clear h2
          go_wp2
          go_roundw
          case rel => exact ⟨l', E' + 1, by go_num, hT, hD.tail, by rw [HQ.out, dat_shift], by omega, by have := HL.out; simp at this; omega, fun k hk => HOB.out k (by rw [← hk]; split <;> rfl), by trivial⟩
          case measure => simp [lenOf]
        · have b0 : ((x : Int) == 0) = false := by rw [beq_eq_false_iff_ne]; omega
          go_wp2
          go_meet
          exact ⟨x :: l', E', rfl, hN, hD, HQ.out, h1, h2, HOB.out, by trivial⟩
  case rest =>
    obtain ⟨l1, E1, rfl, hN1, hD1, hQ1, h1, h2, hob1, rfl⟩ := hcut
    have HQ1 := hid hQ1
    have HOB1 := hid hob1
    clear hob1
    clear hQ1
    have hb1 : E1 ≤ 2000000 := by omega
    have W1 := hid h2
    clear h2
    go_wp2_with fail
    go_loopw [1] (fun c wx => ∃ (l' : List Nat), NS w c l' ∧ Dg l' ∧ q0 = dat neg (dv l') (16 * E1) ∧ l'.length ≤ l1.length ∧ (∀ k, c.ownBlock = some k → L.ownBlock = some k) ∧ wx = wc) (fun c _ => lenOf c)
    case atStart => exact ⟨l1, hN1, hD1, HQ1.out, Nat.le_refl _, HOB1.out, rfl⟩
    case round =>
      obtain ⟨l', hN, hD, hQ, h2, hob, hwr⟩ := hrel
      have HOB := hid hob
      clear hob
      subst hwr
      have HQ := hid hQ
      have HL2 := hid h2
      have hl2 : l'.length ≤ 1000000 := by have := W1.out; omega
      clear hQ h2
      rcases Nat.eq_zero_or_pos l'.length with h0 | h0
      · have : l' = [] := List.length_eq_zero_iff.1 h0
        subst this
        obtain ⟨a, cap, rfl⟩ := hN.shape
        go_wp2
        refine bodyPost_ret (by simp [results, Try.results120, go_sem, *]; rfl) rfl ?_
        refine ⟨_, rfl, ⟨false, _, 0, [], rfl, NS.nil _, Dg.nil, by rw [HQ.out]; show dat neg 0 _ = dat false 0 _; rw [dat_zero, dat_zero], fun _ => rfl, fun _ => ⟨rfl, rfl⟩, fun h => absurd rfl h⟩, (fun k hk => by cases hk), by (show Grew _ _; repeat (first | (with_reducible exact Grew.refl _) | (with_reducible assumption) | (with_reducible exact Grew.same_o) | (with_reducible exact Grew.app_o) | (with_reducible refine Grew.ext ?_ _ _) | (with_reducible refine Grew.alloc ?_ _) | ((with_reducible refine Grew.setCell ?_ ?_ _); rotate_left; (focus (dsimp only; first | omega | (simp only [size_ext, World.size_alloc, Array.size_append]; omega)))) | (with_reducible refine Grew.drewN ?_ _) | (with_reducible refine Grew.drew ?_)))⟩
      · obtain ⟨m, hm⟩ : ∃ m, l'.length = m + 1 := ⟨l'.length - 1, by omega⟩
        obtain ⟨blk, o, cap, rfl, hblk, hcap, hc⟩ := hN.open h0
        have hc0 := (g0.cell hblk).trans (hc m (by omega))
        clear hc
        have hdl := hN.dropLast
        have hne : l' ≠ [] := by intro h; subst h; simp at hm
        have hgl : l'.getD m 0 = l'.getLast hne := by
          rw [List.getLast_eq_getElem, List.getD_eq_getElem?_getD, List.getElem?_eq_getElem (by omega)]
          simp [hm]
        obtain ⟨x, hx⟩ : ∃ x, x = l'.getD m 0 := ⟨_, rfl⟩
        rw [← hx] at hc0 hgl
        have HX := hid hgl
        rw [hm] at hdl hcap hN ⊢
        have hdrop := hid (show l'.dropLast.length = m by simp [hm])
        have hM := hid hm
        have hmb : m ≤ 1000000 := by omega
        have am : IntKind.i64.wrap (m : Int) = m := IntWalk.i64_in _ (by omega)
        clear hgl hx hm
        by_cases hx0 : x = 0
        · subst hx0
          have hdv := hid (dv_dropLast hne HX.out.symm)
          go_wp2
          go_roundw
          case rel => exact ⟨l'.dropLast, by rw [← hdrop.out] at hdl ⊢; exact hdl, hD.dropLast, by rw [HQ.out, hdv.out], by have := HL2.out; have := hM.out; rw [hdrop.out]; omega, HOB.out, by trivial⟩
          case measure => simp [lenOf]
        · have b0 : ((x : Int) == 0) = false := by rw [beq_eq_false_iff_ne]; omega
          have hdv : dv l' = 0 → l' = [] := fun h => absurd h (dv_pos hne (by rw [← HX.out]; exact hx0))
          have Hdv := hid hdv
          clear hdv
          go_wp2
          refine bodyPost_ret (by simp [results, Try.results120, go_sem, *]; rfl) rfl ?_
          refine ⟨_, rfl, ⟨neg, _, E1, l', rfl, ?_, hD, HQ.out, Hdv.out, fun h => absurd h hne, fun _ => ?_⟩, HOB.out, by (show Grew _ _; repeat (first | (with_reducible exact Grew.refl _) | (with_reducible assumption) | (with_reducible exact Grew.same_o) | (with_reducible exact Grew.app_o) | (with_reducible refine Grew.ext ?_ _ _) | (with_reducible refine Grew.alloc ?_ _) | ((with_reducible refine Grew.setCell ?_ ?_ _); rotate_left; (focus (dsimp only; first | omega | (simp only [size_ext, World.size_alloc, Array.size_append]; omega)))) | (with_reducible refine Grew.drewN ?_ _) | (with_reducible refine Grew.drew ?_)))⟩
          · rw [← hM.out] at hN ⊢
            exact hN.grew (by (show Grew _ _; repeat (first | (with_reducible exact Grew.refl _) | (with_reducible assumption) | (with_reducible exact Grew.same_o) | (with_reducible exact Grew.app_o) | (with_reducible refine Grew.ext ?_ _ _) | (with_reducible refine Grew.alloc ?_ _) | ((with_reducible refine Grew.setCell ?_ ?_ _); rotate_left; (focus (dsimp only; first | omega | (simp only [size_ext, World.size_alloc, Array.size_append]; omega)))) | (with_reducible refine Grew.drewN ?_ _) | (with_reducible refine Grew.drew ?_))))
          · have := HL2.out
            have := W1.out
            omega
end Go.Proofs.Ytcmggfpcbijcjaa
end
section
/-
  Contracts: the reference's digits (layer 2): Whole, Int.
-/
set_option linter.unusedSimpArgs false
set_option linter.unusedVariables false
open Go Go.RowKit Sedge
namespace Go.Proofs.Ytcmggfpcbijcjaa
theorem p64 {c : Nat} (h : c < 4) {m : Nat} (hm : m < 65536 ^ (4 - c)) : m / 65536 < 65536 ^ (4 - (c + 1)) := by
  have e : 4 - c = 4 - (c + 1) + 1 := by omega
  rw [e, Nat.pow_succ] at hm
  exact (Nat.div_lt_iff_lt_mul (by decide)).2 hm
set_option maxRecDepth 100000 in
set_option maxHeartbeats 2000000 in
/-- Whole. -/
theorem whole_any (neg : Bool) (m : Nat) (w : World) (hm : m < 2 ^ 64) :
   Calls Try.prog 119 #[.bool neg, .int .u64 m] w (fun e w' => ∃ v, e = .returned v ∧ DV w' v (dat neg m 0) 0 4 ∧ (∀ k, dBlock v = some k → w.heap.size ≤ k) ∧ ∃ o n, w' = ext w o n) := by
  have hm4 : m < 65536 ^ (4 - 0) := hm
  clear hm
  obtain ⟨q0, hq0⟩ : ∃ q0, Hid (q0 = dat neg m 0) := ⟨_, hid rfl⟩
  rw [← hq0.out]
  have hmade : ∀ L l w', NS w' L l → Dg l → l.length ≤ 4 → dv l = m → Calls Try.prog 120 #[.bool neg, L, .int .i64 0] w' (fun e w2 => ∃ v, e = .returned v ∧ DV w2 v q0 0 4 ∧ (∀ k, dBlock v = some k → L.ownBlock = some k) ∧ ∃ o n, w2 = ext w' o n) := fun L l w' h1 h2 h3 h4 => by
    refine (made_any neg L l 0 w' h1 h2 (by omega) (by omega)).mono fun e w2 hh => ?_
    obtain ⟨v, a1, a2, a4, a3⟩ := hh
    refine ⟨v, a1, ?_, a4, a3⟩
    rw [h4] at a2
    rw [hq0.out]
    exact a2.mono (by omega) (by omega)
  go_enter Try.func119, Try.ntmps119
  go_upto_block 0 with fail
  refine name_any (fun W hW => ?_)
  have g0 : Grew w W := by rw [← hW]; (show Grew _ _; repeat (first | (with_reducible exact Grew.refl _) | (with_reducible assumption) | (with_reducible exact Grew.same_o) | (with_reducible exact Grew.app_o) | (with_reducible refine Grew.ext ?_ _ _) | (with_reducible refine Grew.alloc ?_ _) | ((with_reducible refine Grew.setCell ?_ ?_ _); rotate_left; (focus (dsimp only; first | omega | (simp only [size_ext, World.size_alloc, Array.size_append]; omega)))) | (with_reducible refine Grew.drewN ?_ _) | (with_reducible refine Grew.drew ?_)))
  have s1 : w.heap.size < W.heap.size := by rw [← hW]; simp only [World.size_alloc]; omega
  have f1 : ∀ i, W.frozen? ⟨w.heap.size, i, none⟩ = false := by subst hW; intro i; go_simp
  have b1 : ∀ i, W.cell? ⟨w.heap.size, i, none⟩ = (#[.bool false, .slice none 0 0, .int .i64 0] : Array Value)[i]? := by subst hW; intro i; go_simp
  clear hW
  go_wp2_with fail
  go_loopw [1, 5] (fun c d wx => ∃ (l : List Nat) (M : Nat), c = .int .u64 M ∧ OwnN wx W.heap.size d l ∧ Dg l ∧ l.length ≤ 4 ∧ M < 65536 ^ (4 - l.length) ∧ dv l + 65536 ^ l.length * M = m ∧ ∃ o n, wx = ext W o n) (fun c _ _ => (intOf c).toNat)
  case atStart => exact ⟨[], m, rfl, OwnN.nil _ _, Dg.nil, by simp, hm4, by simp [dv], _, _, ext_zero.symm⟩
  case round =>
    obtain ⟨l, M, rfl, hO, hD, h4, hM, hV, o1, n1, rfl⟩ := hrel
    have HM := hid hM
    have HV := hid hV
    clear hM hV
    by_cases h0 : M = 0
    · subst h0
      have hdv : dv l = m := by have := HV.out; rw [Nat.mul_zero, Nat.add_zero] at this; exact this
      have hns := hO.ns
      go_wp2_with (first | (go_at_call 120; ((with_reducible refine (hmade _ l _ hns hD h4 hdv).mono ?_); rintro e w1 ⟨v, rfl, hv, hbk, o2, n2, rfl⟩; obtain ⟨ng, sa, sn, sc, sE, rfl⟩ := hv.shape)))
      have hbk2 : ∀ k, dBlock (.agg #[.bool ng, .slice sa sn sc, .int .i64 sE]) = some k → W.heap.size ≤ k := fun k hk => hO.block k (hbk k hk)
      rw [ext_ext] at hv
      refine bodyPost_ret (by simp [results, Try.results119, go_sem, *]; rfl) rfl ?_
      exact ⟨_, rfl, hv.ext_set3 s1 (fun k hk => by have := hbk2 k hk; omega) _ _ _, fun k hk => by have := hbk2 k hk; omega, by (show Grew _ _; repeat (first | (with_reducible exact Grew.refl _) | (with_reducible assumption) | (with_reducible exact Grew.same_o) | (with_reducible exact Grew.app_o) | (with_reducible refine Grew.ext ?_ _ _) | (with_reducible refine Grew.alloc ?_ _) | ((with_reducible refine Grew.setCell ?_ ?_ _); rotate_left; (focus (dsimp only; first | omega | (simp only [size_ext, World.size_alloc, Array.size_append]; omega)))) | (with_reducible refine Grew.drewN ?_ _) | (with_reducible refine Grew.drew ?_)))⟩
    · have hlt : l.length < 4 := by
        rcases Nat.lt_or_ge l.length 4 with h | h
        · exact h
        · have := HM.out
          rw [show 4 - l.length = 0 by omega] at this
          simp at this; omega
      go_wp2_with (first | (at_builtin; refine append1_n iundN iinfoN rfl (W := W) (d := M % 65536) ⟨_, _, rfl⟩ hO ?_ (by omega) _ _ rfl rfl rfl ?_ rfl ?_; (focus omega); (focus (first | rfl | (simp only [size_ext]))); intro va oa na hoa))
      have hm2 := p64 hlt HM.out
      have e1 : IntKind.u64.wrap ((M : Int) / 65536) = ((M / 65536 : Nat) : Int) := by
        have : M < 65536 ^ 4 := Nat.lt_of_lt_of_le HM.out (Nat.pow_le_pow_right (by decide) (by omega))
        rw [IntWalk.u64_in _ (by omega)]; omega
      have hdm := Nat.div_add_mod M 65536
      have hVV : dv (l ++ [M % 65536]) + 65536 ^ (l.length + 1) * (M / 65536) = m := by
        rw [← HV.out, dv_append, Nat.pow_succ]
        show dv l + 65536 ^ l.length * (M % 65536 + 65536 * 0) + _ = _
        rw [Nat.mul_assoc, Nat.add_assoc, ← Nat.mul_add]
        congr 2; omega
      go_roundw
      case rel => exact ⟨l ++ [M % 65536], M / 65536, by rw [e1], hoa, hD.append (Dg.one (Nat.mod_lt _ (by decide))), by simp; omega, by simpa using hm2, by simpa using hVV, _, _, rfl⟩
      case measure => rw [e1]; simp [intOf]; omega
end Go.Proofs.Ytcmggfpcbijcjaa
end
section
/-
  Contracts: the reference's digits (layer 2): Shift.
-/
set_option linter.unusedSimpArgs false
set_option linter.unusedVariables false
open Go Go.RowKit Sedge
namespace Go.Proofs.Ytcmggfpcbijcjaa
theorem emod16 (k : Int) : ∃ r : Nat, k % 16 = r ∧ r < 16 := ⟨(k % 16).toNat, by omega, by omega⟩
set_option maxRecDepth 100000 in
set_option maxHeartbeats 4000000 in
/-- Shift. -/
theorem dshift_any (V : Value) (q : Rat) (lo hi k : Int) (w : World) (hV : DV w V q lo hi) (hlo : -100000 ≤ lo) (hhi : hi ≤ 100000) (hk : -100000 ≤ k ∧ k ≤ 100000) :
   Calls Try.prog 32 #[V, .int .i64 k] w (fun e w' => ∃ v, e = .returned v ∧ DV w' v (q * p2 k) (lo + k / 16) (hi + k / 16 + 1) ∧ (∀ b, dBlock v = some b → w.heap.size ≤ b) ∧ ∃ o n, w' = ext w o n) := by
  obtain ⟨ng, L, E, l, rfl, hN, hD, hq, h0, h1, h2⟩ := hV
  obtain ⟨r, hr, hr16⟩ := emod16 k
  obtain ⟨Q, hQ⟩ : ∃ Q, Q = k / 16 := ⟨_, rfl⟩
  have hkQ : k = 16 * Q + r := by omega
  have hQb : -10000 ≤ Q ∧ Q ≤ 10000 := by omega
  have hEb : -100000 ≤ E ∧ E ≤ 100000 ∧ l.length ≤ 200000 := by
    by_cases hl : l = []
    · subst hl; have := (h1 rfl).1; simp; omega
    · have := h2 hl; omega
  obtain ⟨q0, hq0⟩ : ∃ q0, Hid (q0 = q * p2 k) := ⟨_, hid rfl⟩
  obtain ⟨P, hP⟩ : ∃ P, P = 2 ^ r := ⟨_, rfl⟩
  rw [← hq0.out, ← hQ]
  have hfl : ∀ w', Calls Try.prog 124 #[.int .i64 k] w' (fun e w2 => e = .returned (.tuple #[.int .i64 Q, .int .i64 r]) ∧ w' = w2) := fun w' => by
    have := floor_any k w' (by omega)
    rw [← hQ, hr] at this
    exact this.mono fun e w2 h => ⟨h.1, h.2.symm⟩
  have hpw : ∀ w', Calls Try.prog 125 #[.int .i64 r] w' (fun e w2 => e = .returned (.int .i64 (P : Int)) ∧ w' = w2) := fun w' => by
    rw [hP]; exact (power_any r w' (by omega)).mono fun e w2 h => ⟨h.1, h.2.symm⟩
  have hmade : ∀ L' l' w', NS w' L' l' → Dg l' → l'.length = l.length + 1 → dv l' = dv l * P → Calls Try.prog 120 #[.bool ng, L', .int .i64 (E + Q)] w' (fun e w2 => ∃ v, e = .returned v ∧ DV w2 v q0 (lo + Q) (hi + Q + 1) ∧ (∀ k, dBlock v = some k → L'.ownBlock = some k) ∧ ∃ o n, w2 = ext w' o n) := fun L' l' w' a1 a2 a3 a4 => by
    refine (made_any ng L' l' (E + Q) w' a1 a2 (by omega) (by omega)).mono fun e w2 hh => ?_
    obtain ⟨v, b1, b2, b3, b4⟩ := hh
    refine ⟨v, b1, ?_, b3, b4⟩
    have e1 : dat ng (dv l') (16 * (E + Q)) = q0 := by
      rw [hq0.out, hq, a4, hP, hkQ]
      unfold dat
      rw [Rat.natCast_mul, ← p2_nat, show 16 * (E + Q) = 16 * E + 16 * Q by omega, p2_add, p2_add]
      grind
    rw [e1] at b2
    obtain ⟨ng', L2, E2, l2, c1, c2, c3, c4, c5, c6, c7⟩ := b2
    refine ⟨ng', L2, E2, l2, c1, c2, c3, c4, c5, c6, fun hl2 => ?_⟩
    have c8 := c7 hl2
    by_cases hl : l = []
    · exfalso
      subst hl
      have hd0 : dv l' = 0 := by rw [a4]; simp [dv]
      rw [hd0, dat_zero] at e1
      rw [← e1] at c4
      have := dat_eq_zero c4.symm
      exact hl2 (c5 this)
    · have := h2 hl; omega
  obtain ⟨sa, sc, rfl⟩ := hN.shape
  have Hq := hid hq
  clear hkQ hq h0 h1 h2 hq0 hQ hr
  go_enter Try.func32, Try.ntmps32
  refine seq_stop ?_
  go_wp2
  refine stop_go (fun W hW => ?_)
  have s1 : w.heap.size < W.heap.size := by rw [hW]; simp only [World.size_alloc]; omega
  have b1 : ∀ i, W.cell? ⟨w.heap.size, i, none⟩ = (#[.bool ng, .slice sa l.length sc, .int .i64 E] : Array Value)[i]? := by intro i; rw [hW]; go_simp
  have f1 : ∀ i, W.frozen? ⟨w.heap.size, i, none⟩ = false := by intro i; rw [hW]; go_simp
  have s2 : w.heap.size + 1 < W.heap.size := by rw [hW]; simp only [World.size_alloc]; omega
  have b2 : ∀ i, W.cell? ⟨w.heap.size + 1, i, none⟩ = (#[.bool false, .slice none 0 0, .int .i64 0] : Array Value)[i]? := by intro i; rw [hW]; go_simp
  have f2 : ∀ i, W.frozen? ⟨w.heap.size + 1, i, none⟩ = false := by intro i; rw [hW]; go_simp
  have g0 : Grew w W := by rw [hW]; exact ((Grew.refl _).alloc _).alloc _
  clear hW
  have hNW := hN.grew g0
  have zW := g0.below.size
  go_wp2_with (first | (go_at_call 124; ((with_reducible refine (hfl _).mono ?_); rintro e w1 ⟨rfl, rfl⟩)) | (at_make; refine make_n iundN iinfoN (Grew.refl W) _ _ rfl rfl (l.length + 1) (by omega) rfl rfl (by omega) ?_; intro oo nn g hg hB))
  refine name_any (fun V hV => ?_)
  have gV : Grew W V := by rw [← hV]; (show Grew _ _; repeat (first | (with_reducible exact Grew.refl _) | (with_reducible assumption) | (with_reducible exact Grew.same_o) | (with_reducible exact Grew.app_o) | (with_reducible refine Grew.ext ?_ _ _) | (with_reducible refine Grew.alloc ?_ _) | ((with_reducible refine Grew.setCell ?_ ?_ _); rotate_left; (focus (dsimp only; first | omega | (simp only [size_ext, World.size_alloc, Array.size_append]; omega)))) | (with_reducible refine Grew.drewN ?_ _) | (with_reducible refine Grew.drew ?_)))
  rw [hV] at hB
  clear hV
  have zV := gV.below.size
  have kgV := hB.lt
  have c1 : ∀ i, V.cell? ⟨w.heap.size, i, none⟩ = (#[.bool ng, .slice sa l.length sc, .int .i64 E] : Array Value)[i]? := fun i => (gV.cell s1).trans (b1 i)
  have c2 : ∀ i, V.cell? ⟨w.heap.size + 1, i, none⟩ = (#[.bool false, .slice none 0 0, .int .i64 0] : Array Value)[i]? := fun i => (gV.cell s2).trans (b2 i)
  have fz : ∀ i, V.frozen? ⟨g, i, none⟩ = false := hB.notFrozen
  have fz2 : ∀ i, V.frozen? ⟨w.heap.size + 1, i, none⟩ = false := fun i => (gV.frozen s2).trans (f2 i)
  have k1 : w.heap.size < V.heap.size := by omega
  have k2 : w.heap.size + 1 < V.heap.size := by omega
  have n1 : w.heap.size ≠ g := by omega
  have n2 : w.heap.size + 1 ≠ g := by omega
  have hNV := hNW.grew gV
  clear b1 b2 f1 f2
  go_loopw [8] (fun c wx => ∃ (i : Nat) (m : List Nat) (o : Array Obj) (n : Nat), i ≤ l.length ∧ c = .int .i64 i ∧ wx = ext (upd V g (ia m)) o n ∧ m.length = l.length + 1 ∧ Dg m ∧ dv m = ds (fun j => l.getD j 0) i * P ∧ m.getD i 0 < P ∧ ∀ j, i < j → m.getD j 0 = 0) (fun c _ => l.length - (intOf c).toNat)
  case atStart =>
    refine ⟨0, List.replicate (l.length + 1) 0, #[], V.drawn, Nat.zero_le _, rfl, by rw [hB.self]; exact ext_zero.symm, by simp, Dg.replicate _, by rw [dv_replicate]; simp [ds], ?_, ?_⟩
    · rw [hP]; simpa using Nat.two_pow_pos r
    · intro j _
      rw [List.getD_eq_getElem?_getD, List.getElem?_replicate]; split <;> rfl
  case round =>
    obtain ⟨i, m, o, n, hi, rfl, rfl, hml, hmD, hmV, hm0, hmz⟩ := hrel
    by_cases hlt : i < l.length
    · obtain ⟨blk, so, rfl, hblk, hcl⟩ := hNW.at.2.2 (by omega)
      have hci := (gV.cell hblk).trans (hcl i hlt)
      have kb : blk < V.heap.size := by omega
      have nb : blk ≠ g := by omega
      obtain ⟨d, hd⟩ : ∃ d, d = l.getD i 0 := ⟨_, rfl⟩
      have hd16 : d < 65536 := by rw [hd]; exact hD.get i
      rw [← hd] at hci
      obtain ⟨T, hT⟩ : ∃ T, T = d * P := ⟨_, rfl⟩
      have hP16 : P ≤ 65536 := by rw [hP]; exact pow_le16 (by omega)
      have hT2 : T ≤ 65536 * 65536 := by rw [hT]; exact Nat.mul_le_mul (by omega) hP16
      have a1 : IntKind.i64.wrap ((d : Int) * (P : Int)) = (T : Int) := by rw [IntWalk.i64_in _ (by rw [← Int.natCast_mul, ← hT]; omega), hT]; simp
      obtain ⟨x, hx⟩ : ∃ x, x = m.getD i 0 := ⟨_, rfl⟩
      have hmi : (upd V g (ia m)).cell? ⟨g, i, none⟩ = some (.int .i64 (x : Int)) := by rw [hB.get (by omega), hx]
      have hmi2 : ∀ v, (upd V g ((ia m).setIfInBounds i v)).cell? ⟨g, i + 1, none⟩ = some (.int .i64 (m.getD (i + 1) 0 : Nat)) := fun v => by rw [hB.cells, Array.getElem?_setIfInBounds, if_neg (by omega), ia_get _ (by omega)]
      have hx16 : x < 65536 := by rw [hx]; exact hmD.get i
      have hst := shift_step (l := m) (i := i) (d := d) (r := r) (by omega) hmD hd16 hr16 (by rw [← hP]; exact hm0) hmz
      have hia : i ≤ 200000 := by omega
      have HST := hid hst
      have HMV := hid hmV
      have HH := hid hml
      have HP := hid hP
      have HD := hid hd
      have HX := hid hx
      have HT := hid hT
      clear hst hmV hm0 hmz hml hP hd hx hT hcl hmD
      have m1 : (T : Int).tmod 65536 = ((T % 65536 : Nat) : Int) := by rw [Int.tmod_eq_emod_of_nonneg (by omega)]; omega
      have m2 : (T : Int).tdiv 65536 = ((T / 65536 : Nat) : Int) := by rw [Int.tdiv_eq_ediv_of_nonneg (by omega)]; omega
      go_wp2
      refine wp_region_R (Grew (ext (upd V g (ia m)) o n)) [] [(0,0), (0,1), (0,2), (0,3), (0,4), (0,5), (1,6), (0,7), (0,8)] (by kernel_rfl) (by kernel_rfl) (fun _ _ _ _ h _ => h) (by first | exact ⟨_, _, ext_drew⟩ | exact ⟨_, _, drew_ext0⟩ | (show Grew _ _; repeat (first | (with_reducible exact Grew.refl _) | (with_reducible assumption) | (with_reducible exact Grew.same_o) | (with_reducible exact Grew.app_o) | (with_reducible refine Grew.ext ?_ _ _) | (with_reducible refine Grew.alloc ?_ _) | ((with_reducible refine Grew.setCell ?_ ?_ _); rotate_left; (focus (dsimp only; first | omega | (simp only [size_ext, World.size_alloc, Array.size_append]; omega)))) | (with_reducible refine Grew.drewN ?_ _) | (with_reducible refine Grew.drew ?_)))) ?_
      go_wp2_with (first | ((with_reducible refine wpR_id ?_); first | (refine wpR_take (v := ?_) rfl rfl ?_ ?_; rotate_left; (focus (rintro w' ⟨o', n', rfl⟩; go_simp; try with_reducible rfl)); simp only [Act.put, List.setIfInBounds_toArray, List.set_cons_zero, List.set_cons_succ]) | (refine wpR_pure (v := ?_) rfl rfl ?_ ?_; rotate_left; (focus (intro w'; go_simp; try with_reducible rfl)); simp only [Act.put, List.setIfInBounds_toArray, List.set_cons_zero, List.set_cons_succ]) | (refine wpR_takeG (v := ?_) rfl rfl rfl rfl rfl ?_ ?_; rotate_left; (focus (rintro w' ⟨o', n', rfl⟩; go_simp; try with_reducible rfl)); simp only [Act.put, List.setIfInBounds_toArray, List.set_cons_zero, List.set_cons_succ]) | (refine wpR_skip rfl rfl rfl rfl rfl rfl ?_; simp only [Act.put, List.setIfInBounds_toArray, List.set_cons_zero, List.set_cons_succ]) | (refine wpR_skipU rfl rfl rfl rfl rfl ?_; simp only [Act.put, List.setIfInBounds_toArray, List.set_cons_zero, List.set_cons_succ]) | (refine wpR_do rfl rfl (fun K hK => ?_)) | (refine wpR_doG rfl rfl rfl rfl rfl (fun K hK => ?_)) | (refine wpR_last rfl rfl (fun K hK => ?_)) | (refine wpR_nil ?_)) | ((with_reducible refine wpR_go ?_ ?_); (focus (show Grew _ _; repeat (first | (with_reducible exact Grew.refl _) | (with_reducible assumption) | (with_reducible exact Grew.same_o) | (with_reducible exact Grew.app_o) | (with_reducible refine Grew.ext ?_ _ _) | (with_reducible refine Grew.alloc ?_ _) | ((with_reducible refine Grew.setCell ?_ ?_ _); rotate_left; (focus (dsimp only; first | omega | (simp only [size_ext, World.size_alloc, Array.size_append]; omega)))) | (with_reducible refine Grew.drewN ?_ _) | (with_reducible refine Grew.drew ?_))))) | ((with_reducible refine upon_id ?_); refine upon_fop rfl (by assumption) (by assumption) ?_; intro rr nn hr) | (go_at_call 125; ((with_reducible refine (hpw _).mono ?_); rintro e w1 ⟨rfl, rfl⟩)))
      go_roundw
      case rel =>
        obtain ⟨q1, q2, q3, q4⟩ := HST.out
        refine ⟨i + 1, (m.set i (x + T % 65536)).set (i + 1) (T / 65536), o, n + 1, by omega, by go_num, ?_, by simp; exact HH.out, ?_, ?_, ?_, ?_⟩
        · rw [← ia_set, ← ia_set]
          simp only [Int.natCast_add, Int.natCast_emod, Int.natCast_ediv]
          rfl
        · rw [HX.out, HT.out, HP.out]; exact q2
        · rw [HX.out, HT.out, HP.out, q1, HMV.out]
          show _ = (ds (fun j => l.getD j 0) i + l.getD i 0 * 65536 ^ i) * 2 ^ r
          rw [← HD.out, Nat.add_mul, HP.out, Nat.mul_right_comm d]
        · rw [HX.out, HT.out, HP.out]; exact q3
        · rw [HX.out, HT.out, HP.out]; exact q4
      case measure => simp [intOf]; omega
    · have e : i = l.length := by omega
      have hdv : dv m = dv l * P := by rw [hmV, e, ds_list]
      have hns : NS (ext (upd V g (ia m)) o n) (.slice (some ⟨g, 0, none⟩) (l.length + 1) (l.length + 1)) m := by
        have h5 := hB.mk' m o n
        have h6 := h5.ns (cap := l.length + 1) (by rw [hml]; exact Nat.le_refl _)
        rw [hml] at h6
        exact h6
      have aQ : IntKind.i64.wrap (E + Q) = E + Q := IntWalk.i64_in _ (by omega)
      have HDV := hid hdv
      have HH := hid hml
      subst e
      clear hdv hmV hm0 hmz hml
      go_wp2_with (first | (go_at_call 120; ((with_reducible refine (hmade _ m _ hns hmD HH.out HDV.out).mono ?_); rintro e w1 ⟨v, rfl, hv, hbk, o2, n2, rfl⟩; obtain ⟨vn, va, vl, vc, vE, rfl⟩ := hv.shape)))
      have hbk2 : ∀ k, dBlock (.agg #[.bool vn, .slice va vl vc, .int .i64 vE]) = some k → k = g := fun k hk => by have := hbk k hk; cases this; rfl
      rw [ext_ext] at hv
      refine bodyPost_ret (by simp [results, Try.results32, go_sem, *]; rfl) rfl ?_
      refine ⟨_, rfl, hv.ext_set3 (by simpa using k2) (fun k hk => by have := hbk2 k hk; omega) _ _ _, fun k hk => by have := hbk2 k hk; omega, ?_⟩
      have gU : Grew w (upd V g (ia m)) := (Grew.trans g0 gV).upd (by omega) _
      have gS : ∀ (X : World) i v, Grew w X → Grew w (X.setCell ⟨w.heap.size + 1, i, none⟩ v) := fun X i v h => h.setCell (by show w.heap.size ≤ w.heap.size + 1; omega) v
      exact (gS _ _ _ (gS _ _ _ (gS _ _ _ gU))).ext _ _
end Go.Proofs.Ytcmggfpcbijcjaa
end
section
/-
  Contracts: the reference's digits (layer 2): at, ends, size.
-/
set_option linter.unusedSimpArgs false
set_option linter.unusedVariables false
open Go Go.RowKit Sedge
namespace Go.Proofs.Ytcmggfpcbijcjaa
set_option maxRecDepth 100000 in
set_option maxHeartbeats 1000000 in
/-- at. -/
theorem dat_at (ng : Bool) (L : Value) (E : Int) (l : List Nat) (p : Int) (w : World) (hN : NS w L l) (hE : -1000000 ≤ E ∧ E ≤ 1000000) (hl : l.length ≤ 1000000) (hp : -1000000 ≤ p ∧ p ≤ 1000000) :
   Calls Try.prog 122 #[.agg #[.bool ng, L, .int .i64 E], .int .i64 p] w (fun e w' => e = .returned (.int .i64 (digAt l E p : Nat)) ∧ ∃ o n, w' = ext w o n) := by
  obtain ⟨sa, sc, rfl⟩ := hN.shape
  have a1 : IntKind.i64.wrap (E + (l.length : Int)) = E + l.length := IntWalk.i64_in _ (by omega)
  have a2 : IntKind.i64.wrap (p - E) = p - E := IntWalk.i64_in _ (by omega)
  by_cases h1 : p < E
  · have d1 : decide (p < E) = true := by simpa using h1
    have q := hid (show digAt l E p = 0 by unfold digAt; rw [if_pos (.inl h1)])
    clear h1
    go_enter Try.func122, Try.ntmps122
    refine seq_stop ?_
    go_wp2
    refine stop_go (fun W hW => ?_)
    have s1 : w.heap.size < W.heap.size := by rw [hW]; simp only [World.size_alloc]; omega
    have b1 : ∀ i, W.cell? ⟨w.heap.size, i, none⟩ = (#[.bool ng, .slice sa l.length sc, .int .i64 E] : Array Value)[i]? := by intro i; rw [hW]; go_simp
    have g0 : Grew w W := by rw [hW]; exact (Grew.refl _).alloc _
    clear hW
    go_wp2
    go_ret
    exact ⟨ret_int (by rw [q.out]; rfl), by (show Grew _ _; repeat (first | (with_reducible exact Grew.refl _) | (with_reducible assumption) | (with_reducible exact Grew.same_o) | (with_reducible exact Grew.app_o) | (with_reducible refine Grew.ext ?_ _ _) | (with_reducible refine Grew.alloc ?_ _) | ((with_reducible refine Grew.setCell ?_ ?_ _); rotate_left; (focus (dsimp only; first | omega | (simp only [size_ext, World.size_alloc, Array.size_append]; omega)))) | (with_reducible refine Grew.drewN ?_ _) | (with_reducible refine Grew.drew ?_)))⟩
  · have d1 : decide (p < E) = false := by simpa using h1
    by_cases h2 : E + l.length ≤ p
    · have d2 : decide (E + (l.length : Int) ≤ p) = true := by simpa using h2
      have q := hid (show digAt l E p = 0 by unfold digAt; rw [if_pos (.inr h2)])
      clear h1 h2
      go_enter Try.func122, Try.ntmps122
      refine seq_stop ?_
      go_wp2
      refine stop_go (fun W hW => ?_)
      have s1 : w.heap.size < W.heap.size := by rw [hW]; simp only [World.size_alloc]; omega
      have b1 : ∀ i, W.cell? ⟨w.heap.size, i, none⟩ = (#[.bool ng, .slice sa l.length sc, .int .i64 E] : Array Value)[i]? := by intro i; rw [hW]; go_simp
      have g0 : Grew w W := by rw [hW]; exact (Grew.refl _).alloc _
      clear hW
      go_wp2
      go_ret
      exact ⟨ret_int (by rw [q.out]; rfl), by (show Grew _ _; repeat (first | (with_reducible exact Grew.refl _) | (with_reducible assumption) | (with_reducible exact Grew.same_o) | (with_reducible exact Grew.app_o) | (with_reducible refine Grew.ext ?_ _ _) | (with_reducible refine Grew.alloc ?_ _) | ((with_reducible refine Grew.setCell ?_ ?_ _); rotate_left; (focus (dsimp only; first | omega | (simp only [size_ext, World.size_alloc, Array.size_append]; omega)))) | (with_reducible refine Grew.drewN ?_ _) | (with_reducible refine Grew.drew ?_)))⟩
    · have d2 : decide (E + (l.length : Int) ≤ p) = false := by simpa using h2
      obtain ⟨i, hi⟩ : ∃ i : Nat, p - E = i := ⟨(p - E).toNat, by omega⟩
      have hil : i < l.length := by omega
      have q := hid (show digAt l E p = l.getD i 0 by unfold digAt; rw [if_neg (by omega)]; congr 1; omega)
      rw [hi] at a2
      obtain ⟨blk, so, rfl, hblk, hc⟩ := hN.at.2.2 (by omega)
      have hci := hc i hil
      obtain ⟨x, hx⟩ : ∃ x, x = l.getD i 0 := ⟨_, rfl⟩
      rw [← hx] at hci q
      clear hx
      clear h1 h2 hc
      go_enter Try.func122, Try.ntmps122
      refine seq_stop ?_
      go_wp2
      refine stop_go (fun W hW => ?_)
      have s1 : w.heap.size < W.heap.size := by rw [hW]; simp only [World.size_alloc]; omega
      have b1 : ∀ i, W.cell? ⟨w.heap.size, i, none⟩ = (#[.bool ng, .slice (some ⟨blk, so, none⟩) l.length sc, .int .i64 E] : Array Value)[i]? := by intro i; rw [hW]; go_simp
      have g0 : Grew w W := by rw [hW]; exact (Grew.refl _).alloc _
      clear hW
      have hcW := (g0.cell hblk).trans hci
      clear hN
      go_wp2
      go_ret
      exact ⟨ret_int (by rw [q.out]), by (show Grew _ _; repeat (first | (with_reducible exact Grew.refl _) | (with_reducible assumption) | (with_reducible exact Grew.same_o) | (with_reducible exact Grew.app_o) | (with_reducible refine Grew.ext ?_ _ _) | (with_reducible refine Grew.alloc ?_ _) | ((with_reducible refine Grew.setCell ?_ ?_ _); rotate_left; (focus (dsimp only; first | omega | (simp only [size_ext, World.size_alloc, Array.size_append]; omega)))) | (with_reducible refine Grew.drewN ?_ _) | (with_reducible refine Grew.drew ?_)))⟩
/-- The places of two numbers. -/
def endF (a b : List Nat) (E F : Int) : Int := if a = [] then F else if b = [] then E else min E F
def endT (a b : List Nat) (E F : Int) : Int := if a = [] then F + b.length else if b = [] then E + a.length else max (E + a.length) (F + b.length)
set_option maxRecDepth 100000 in
set_option maxHeartbeats 2000000 in
/-- ends. -/
theorem ends_any (n1 n2 : Bool) (L1 L2 : Value) (E F : Int) (a b : List Nat) (w : World) (ha : NS w L1 a) (hb : NS w L2 b) (hE : -1000000 ≤ E ∧ E ≤ 1000000) (hF : -1000000 ≤ F ∧ F ≤ 1000000) (hla : a.length ≤ 1000000) (hlb : b.length ≤ 1000000) :
   Calls Try.prog 121 #[.agg #[.bool n1, L1, .int .i64 E], .agg #[.bool n2, L2, .int .i64 F]] w (fun e w' => e = .returned (.tuple #[.int .i64 (endF a b E F), .int .i64 (endT a b E F)]) ∧ ∃ o n, w' = ext w o n) := by
  obtain ⟨s1', c1', rfl⟩ := ha.shape
  obtain ⟨s2', c2', rfl⟩ := hb.shape
  have a1 : IntKind.i64.wrap (E + (a.length : Int)) = E + a.length := IntWalk.i64_in _ (by omega)
  have a2 : IntKind.i64.wrap (F + (b.length : Int)) = F + b.length := IntWalk.i64_in _ (by omega)
  obtain ⟨X, hX⟩ : ∃ X, X = endF a b E F := ⟨_, rfl⟩
  obtain ⟨Y, hY⟩ : ∃ Y, Y = endT a b E F := ⟨_, rfl⟩
  rw [← hX, ← hY]
  clear ha hb
  obtain ⟨la, hla'⟩ : ∃ la, la = a.length := ⟨_, rfl⟩
  obtain ⟨lb, hlb'⟩ : ∃ lb, lb = b.length := ⟨_, rfl⟩
  rw [← hla'] at a1 hla ⊢
  rw [← hlb'] at a2 hlb ⊢
  unfold endT at hY
  rw [← hla', ← hlb'] at hY
  by_cases h1 : a = []
  · subst h1
    have hla0 : la = 0 := hla'
    subst hla0
    have q1 := hid (show X = F by rw [hX]; unfold endF; rw [if_pos rfl])
    have q2 := hid (show Y = F + lb by rw [hY]; rw [if_pos rfl])
    clear hX hY hla' hlb'
    go_enter Try.func121, Try.ntmps121
    refine seq_stop ?_
    go_wp2
    refine stop_go (fun W hW => ?_)
    have s1 : w.heap.size < W.heap.size := by rw [hW]; simp only [World.size_alloc]; omega
    have b1 : ∀ i, W.cell? ⟨w.heap.size, i, none⟩ = (#[.bool n1, .slice s1' 0 c1', .int .i64 E] : Array Value)[i]? := by intro i; rw [hW]; go_simp
    have s2 : w.heap.size + 1 < W.heap.size := by rw [hW]; simp only [World.size_alloc]; omega
    have b2 : ∀ i, W.cell? ⟨w.heap.size + 1, i, none⟩ = (#[.bool n2, .slice s2' lb c2', .int .i64 F] : Array Value)[i]? := by intro i; rw [hW]; go_simp
    have g0 : Grew w W := by rw [hW]; exact ((Grew.refl _).alloc _).alloc _
    clear hW
    go_wp2
    refine wp_region_R (Grew W) [] [(0,0), (0,1), (0,2), (0,3), (0,4), (0,5), (0,6), (0,7), (0,8), (0,9)] (by kernel_rfl) (by kernel_rfl) (fun _ _ _ _ h _ => h) (by first | exact ⟨_, _, ext_drew⟩ | exact ⟨_, _, drew_ext0⟩ | (show Grew _ _; repeat (first | (with_reducible exact Grew.refl _) | (with_reducible assumption) | (with_reducible exact Grew.same_o) | (with_reducible exact Grew.app_o) | (with_reducible refine Grew.ext ?_ _ _) | (with_reducible refine Grew.alloc ?_ _) | ((with_reducible refine Grew.setCell ?_ ?_ _); rotate_left; (focus (dsimp only; first | omega | (simp only [size_ext, World.size_alloc, Array.size_append]; omega)))) | (with_reducible refine Grew.drewN ?_ _) | (with_reducible refine Grew.drew ?_)))) ?_
    go_wp2_with (first | ((with_reducible refine wpR_id ?_); first | (refine wpR_take (v := ?_) rfl rfl ?_ ?_; rotate_left; (focus (rintro w' ⟨o', n', rfl⟩; go_simp; try with_reducible rfl)); simp only [Act.put, List.setIfInBounds_toArray, List.set_cons_zero, List.set_cons_succ]) | (refine wpR_pure (v := ?_) rfl rfl ?_ ?_; rotate_left; (focus (intro w'; go_simp; try with_reducible rfl)); simp only [Act.put, List.setIfInBounds_toArray, List.set_cons_zero, List.set_cons_succ]) | (refine wpR_takeG (v := ?_) rfl rfl rfl rfl rfl ?_ ?_; rotate_left; (focus (rintro w' ⟨o', n', rfl⟩; go_simp; try with_reducible rfl)); simp only [Act.put, List.setIfInBounds_toArray, List.set_cons_zero, List.set_cons_succ]) | (refine wpR_skip rfl rfl rfl rfl rfl rfl ?_; simp only [Act.put, List.setIfInBounds_toArray, List.set_cons_zero, List.set_cons_succ]) | (refine wpR_skipU rfl rfl rfl rfl rfl ?_; simp only [Act.put, List.setIfInBounds_toArray, List.set_cons_zero, List.set_cons_succ]) | (refine wpR_do rfl rfl (fun K hK => ?_)) | (refine wpR_doG rfl rfl rfl rfl rfl (fun K hK => ?_)) | (refine wpR_last rfl rfl (fun K hK => ?_)) | (refine wpR_nil ?_)) | ((with_reducible refine wpR_go ?_ ?_); (focus (show Grew _ _; repeat (first | (with_reducible exact Grew.refl _) | (with_reducible assumption) | (with_reducible exact Grew.same_o) | (with_reducible exact Grew.app_o) | (with_reducible refine Grew.ext ?_ _ _) | (with_reducible refine Grew.alloc ?_ _) | ((with_reducible refine Grew.setCell ?_ ?_ _); rotate_left; (focus (dsimp only; first | omega | (simp only [size_ext, World.size_alloc, Array.size_append]; omega)))) | (with_reducible refine Grew.drewN ?_ _) | (with_reducible refine Grew.drew ?_))))) | ((with_reducible refine upon_id ?_); refine upon_fop rfl (by assumption) (by assumption) ?_; intro rr nn hr))
    refine bodyPost_ret (v := .tuple #[.int .i64 F, .int .i64 (F + lb)]) (by simp [results, Try.results121, go_sem, *]) rfl ?_
    exact ⟨by rw [q1.out, q2.out], by (show Grew _ _; repeat (first | (with_reducible exact Grew.refl _) | (with_reducible assumption) | (with_reducible exact Grew.same_o) | (with_reducible exact Grew.app_o) | (with_reducible refine Grew.ext ?_ _ _) | (with_reducible refine Grew.alloc ?_ _) | ((with_reducible refine Grew.setCell ?_ ?_ _); rotate_left; (focus (dsimp only; first | omega | (simp only [size_ext, World.size_alloc, Array.size_append]; omega)))) | (with_reducible refine Grew.drewN ?_ _) | (with_reducible refine Grew.drew ?_)))⟩
  · have l1 : 0 < la := by rw [hla']; exact List.length_pos_iff.2 h1
    have d1 : ((la : Int) == 0) = false := by rw [beq_eq_false_iff_ne]; omega
    by_cases h2 : b = []
    · subst h2
      have hlb0 : lb = 0 := hlb'
      subst hlb0
      have q1 := hid (show X = E by rw [hX]; unfold endF; rw [if_neg h1, if_pos rfl])
      have q2 := hid (show Y = E + la by rw [hY]; rw [if_neg h1, if_pos rfl])
      clear hX hY hla' hlb'
      go_enter Try.func121, Try.ntmps121
      refine seq_stop ?_
      go_wp2
      refine stop_go (fun W hW => ?_)
      have s1 : w.heap.size < W.heap.size := by rw [hW]; simp only [World.size_alloc]; omega
      have b1 : ∀ i, W.cell? ⟨w.heap.size, i, none⟩ = (#[.bool n1, .slice s1' la c1', .int .i64 E] : Array Value)[i]? := by intro i; rw [hW]; go_simp
      have s2 : w.heap.size + 1 < W.heap.size := by rw [hW]; simp only [World.size_alloc]; omega
      have b2 : ∀ i, W.cell? ⟨w.heap.size + 1, i, none⟩ = (#[.bool n2, .slice s2' 0 c2', .int .i64 F] : Array Value)[i]? := by intro i; rw [hW]; go_simp
      have g0 : Grew w W := by rw [hW]; exact ((Grew.refl _).alloc _).alloc _
      clear hW
      go_wp2
      refine wp_region_R (Grew W) [] [(0,0), (0,1), (0,2), (0,3), (0,4), (0,5), (0,6), (0,7), (0,8), (0,9)] (by kernel_rfl) (by kernel_rfl) (fun _ _ _ _ h _ => h) (by first | exact ⟨_, _, ext_drew⟩ | exact ⟨_, _, drew_ext0⟩ | (show Grew _ _; repeat (first | (with_reducible exact Grew.refl _) | (with_reducible assumption) | (with_reducible exact Grew.same_o) | (with_reducible exact Grew.app_o) | (with_reducible refine Grew.ext ?_ _ _) | (with_reducible refine Grew.alloc ?_ _) | ((with_reducible refine Grew.setCell ?_ ?_ _); rotate_left; (focus (dsimp only; first | omega | (simp only [size_ext, World.size_alloc, Array.size_append]; omega)))) | (with_reducible refine Grew.drewN ?_ _) | (with_reducible refine Grew.drew ?_)))) ?_
      go_wp2_with (first | ((with_reducible refine wpR_id ?_); first | (refine wpR_take (v := ?_) rfl rfl ?_ ?_; rotate_left; (focus (rintro w' ⟨o', n', rfl⟩; go_simp; try with_reducible rfl)); simp only [Act.put, List.setIfInBounds_toArray, List.set_cons_zero, List.set_cons_succ]) | (refine wpR_pure (v := ?_) rfl rfl ?_ ?_; rotate_left; (focus (intro w'; go_simp; try with_reducible rfl)); simp only [Act.put, List.setIfInBounds_toArray, List.set_cons_zero, List.set_cons_succ]) | (refine wpR_takeG (v := ?_) rfl rfl rfl rfl rfl ?_ ?_; rotate_left; (focus (rintro w' ⟨o', n', rfl⟩; go_simp; try with_reducible rfl)); simp only [Act.put, List.setIfInBounds_toArray, List.set_cons_zero, List.set_cons_succ]) | (refine wpR_skip rfl rfl rfl rfl rfl rfl ?_; simp only [Act.put, List.setIfInBounds_toArray, List.set_cons_zero, List.set_cons_succ]) | (refine wpR_skipU rfl rfl rfl rfl rfl ?_; simp only [Act.put, List.setIfInBounds_toArray, List.set_cons_zero, List.set_cons_succ]) | (refine wpR_do rfl rfl (fun K hK => ?_)) | (refine wpR_doG rfl rfl rfl rfl rfl (fun K hK => ?_)) | (refine wpR_last rfl rfl (fun K hK => ?_)) | (refine wpR_nil ?_)) | ((with_reducible refine wpR_go ?_ ?_); (focus (show Grew _ _; repeat (first | (with_reducible exact Grew.refl _) | (with_reducible assumption) | (with_reducible exact Grew.same_o) | (with_reducible exact Grew.app_o) | (with_reducible refine Grew.ext ?_ _ _) | (with_reducible refine Grew.alloc ?_ _) | ((with_reducible refine Grew.setCell ?_ ?_ _); rotate_left; (focus (dsimp only; first | omega | (simp only [size_ext, World.size_alloc, Array.size_append]; omega)))) | (with_reducible refine Grew.drewN ?_ _) | (with_reducible refine Grew.drew ?_))))) | ((with_reducible refine upon_id ?_); refine upon_fop rfl (by assumption) (by assumption) ?_; intro rr nn hr))
      refine bodyPost_ret (v := .tuple #[.int .i64 E, .int .i64 (E + la)]) (by simp [results, Try.results121, go_sem, *]) rfl ?_
      exact ⟨by rw [q1.out, q2.out], by (show Grew _ _; repeat (first | (with_reducible exact Grew.refl _) | (with_reducible assumption) | (with_reducible exact Grew.same_o) | (with_reducible exact Grew.app_o) | (with_reducible refine Grew.ext ?_ _ _) | (with_reducible refine Grew.alloc ?_ _) | ((with_reducible refine Grew.setCell ?_ ?_ _); rotate_left; (focus (dsimp only; first | omega | (simp only [size_ext, World.size_alloc, Array.size_append]; omega)))) | (with_reducible refine Grew.drewN ?_ _) | (with_reducible refine Grew.drew ?_)))⟩
    · have l2 : 0 < lb := by rw [hlb']; exact List.length_pos_iff.2 h2
      have d2 : ((lb : Int) == 0) = false := by rw [beq_eq_false_iff_ne]; omega
      have q1 := hid (show X = min E F by rw [hX]; unfold endF; rw [if_neg h1, if_neg h2])
      have q2 := hid (show Y = max (E + la) (F + lb) by rw [hY]; rw [if_neg h1, if_neg h2])
      clear hX hY hla' hlb'
      have m1 := Int.min_def E F
      go_enter Try.func121, Try.ntmps121
      refine seq_stop ?_
      go_wp2
      refine stop_go (fun W hW => ?_)
      have s1 : w.heap.size < W.heap.size := by rw [hW]; simp only [World.size_alloc]; omega
      have b1 : ∀ i, W.cell? ⟨w.heap.size, i, none⟩ = (#[.bool n1, .slice s1' la c1', .int .i64 E] : Array Value)[i]? := by intro i; rw [hW]; go_simp
      have s2 : w.heap.size + 1 < W.heap.size := by rw [hW]; simp only [World.size_alloc]; omega
      have b2 : ∀ i, W.cell? ⟨w.heap.size + 1, i, none⟩ = (#[.bool n2, .slice s2' lb c2', .int .i64 F] : Array Value)[i]? := by intro i; rw [hW]; go_simp
      have g0 : Grew w W := by rw [hW]; exact ((Grew.refl _).alloc _).alloc _
      clear hW
      go_wp2
      refine wp_region_R (Grew W) [] [(0,0), (0,1), (0,2), (0,3), (0,4), (0,5), (0,6), (0,7), (0,8), (0,9), (0,10), (0,11), (0,12), (0,13), (0,14), (0,15), (0,16), (0,17), (0,18), (0,19)] (by kernel_rfl) (by kernel_rfl) (fun _ _ _ _ h _ => h) (by first | exact ⟨_, _, ext_drew⟩ | exact ⟨_, _, drew_ext0⟩ | (show Grew _ _; repeat (first | (with_reducible exact Grew.refl _) | (with_reducible assumption) | (with_reducible exact Grew.same_o) | (with_reducible exact Grew.app_o) | (with_reducible refine Grew.ext ?_ _ _) | (with_reducible refine Grew.alloc ?_ _) | ((with_reducible refine Grew.setCell ?_ ?_ _); rotate_left; (focus (dsimp only; first | omega | (simp only [size_ext, World.size_alloc, Array.size_append]; omega)))) | (with_reducible refine Grew.drewN ?_ _) | (with_reducible refine Grew.drew ?_)))) ?_
      go_wp2_with (first | ((with_reducible refine wpR_id ?_); first | (refine wpR_take (v := ?_) rfl rfl ?_ ?_; rotate_left; (focus (rintro w' ⟨o', n', rfl⟩; go_simp; try with_reducible rfl)); simp only [Act.put, List.setIfInBounds_toArray, List.set_cons_zero, List.set_cons_succ]) | (refine wpR_pure (v := ?_) rfl rfl ?_ ?_; rotate_left; (focus (intro w'; go_simp; try with_reducible rfl)); simp only [Act.put, List.setIfInBounds_toArray, List.set_cons_zero, List.set_cons_succ]) | (refine wpR_takeG (v := ?_) rfl rfl rfl rfl rfl ?_ ?_; rotate_left; (focus (rintro w' ⟨o', n', rfl⟩; go_simp; try with_reducible rfl)); simp only [Act.put, List.setIfInBounds_toArray, List.set_cons_zero, List.set_cons_succ]) | (refine wpR_skip rfl rfl rfl rfl rfl rfl ?_; simp only [Act.put, List.setIfInBounds_toArray, List.set_cons_zero, List.set_cons_succ]) | (refine wpR_skipU rfl rfl rfl rfl rfl ?_; simp only [Act.put, List.setIfInBounds_toArray, List.set_cons_zero, List.set_cons_succ]) | (refine wpR_do rfl rfl (fun K hK => ?_)) | (refine wpR_doG rfl rfl rfl rfl rfl (fun K hK => ?_)) | (refine wpR_last rfl rfl (fun K hK => ?_)) | (refine wpR_nil ?_)) | ((with_reducible refine wpR_go ?_ ?_); (focus (show Grew _ _; repeat (first | (with_reducible exact Grew.refl _) | (with_reducible assumption) | (with_reducible exact Grew.same_o) | (with_reducible exact Grew.app_o) | (with_reducible refine Grew.ext ?_ _ _) | (with_reducible refine Grew.alloc ?_ _) | ((with_reducible refine Grew.setCell ?_ ?_ _); rotate_left; (focus (dsimp only; first | omega | (simp only [size_ext, World.size_alloc, Array.size_append]; omega)))) | (with_reducible refine Grew.drewN ?_ _) | (with_reducible refine Grew.drew ?_))))) | ((with_reducible refine upon_id ?_); refine upon_fop rfl (by assumption) (by assumption) ?_; intro rr nn hr))
      all_goals (refine bodyPost_ret (by simp [results, Try.results121, go_sem, *]; rfl) rfl ?_; exact ⟨by rw [q1.out, q2.out]; simp; omega, by (show Grew _ _; repeat (first | (with_reducible exact Grew.refl _) | (with_reducible assumption) | (with_reducible exact Grew.same_o) | (with_reducible exact Grew.app_o) | (with_reducible refine Grew.ext ?_ _ _) | (with_reducible refine Grew.alloc ?_ _) | ((with_reducible refine Grew.setCell ?_ ?_ _); rotate_left; (focus (dsimp only; first | omega | (simp only [size_ext, World.size_alloc, Array.size_append]; omega)))) | (with_reducible refine Grew.drewN ?_ _) | (with_reducible refine Grew.drew ?_)))⟩)
end Go.Proofs.Ytcmggfpcbijcjaa
end
