/-
  Texts laid one behind the other (a claim has at most 60 files): LawEqf, Head.
-/
import Derived.Deep.CutBlock
import Derived.Deep.DeepCutAuto
import Derived.Test.YtcmggfpcbijcjaaRows
import Derived.ProofKit
import Derived.Test.YtcmggfpcbijcjaaQEquilFactors1
import Derived.Test.YtcmggfpcbijcjaaQEquilFactors2
import Derived.Test.YtcmggfpcbijcjaaQEquilFactors3
import Derived.Test.YtcmggfpcbijcjaaQEquilFactors4
import Derived.Test.YtcmggfpcbijcjaaQEquilFactors5
import Derived.Test.YtcmggfpcbijcjaaQEquilFactors6
import Derived.Test.YtcmggfpcbijcjaaQEquilFactors7
import Derived.Test.YtcmggfpcbijcjaaQEquilFactors8
import Derived.Test.YtcmggfpcbijcjaaQEquilFactors9
import Derived.Test.YtcmggfpcbijcjaaQEquilFactors10
section
/-
  The walk of the law EquilFactors (layer 15).
-/
set_option linter.unusedSimpArgs false
set_option linter.unusedVariables false
open Go Go.RowKit Sedge
namespace Go.Proofs.Ytcmggfpcbijcjaa
theorem finL_iff (ws : List Nat) : finL ws = true ↔ ∀ k, k < ws.length → finB (ws.getD k 0) = true := by
  unfold finL
  rw [List.all_eq_true]
  constructor
  · intro h k hk
    refine h _ ?_
    rw [List.getD_eq_getElem?_getD, List.getElem?_eq_getElem hk]; exact List.getElem_mem _
  · intro h x hx
    obtain ⟨k, hk, rfl⟩ := List.mem_iff_getElem.1 hx
    have := h k hk
    rw [List.getD_eq_getElem?_getD, List.getElem?_eq_getElem hk] at this
    exact this
theorem numL_getD (x : MatM) {i j : Nat} (hi : i < x.rows.toNat) (hj : j < x.cols.toNat) : (numL x).getD (j * x.rows.toNat + i) 0 = x.num i j := by
  unfold numL numTo
  have hk : j * x.rows.toNat + i < x.rows.toNat * x.cols.toNat := by
    have := Nat.mul_le_mul_right x.rows.toNat (show j + 1 ≤ x.cols.toNat by omega)
    rw [Nat.add_mul, Nat.mul_comm x.cols.toNat] at this; omega
  rw [List.getD_eq_getElem?_getD, List.getElem?_map, List.getElem?_range hk]
  show x.num ((j * x.rows.toNat + i) % x.rows.toNat) ((j * x.rows.toNat + i) / x.rows.toNat) = _
  rw [Nat.add_comm, Nat.add_mul_mod_self_right, Nat.mod_eq_of_lt hi, Nat.add_mul_div_right _ _ (by omega), Nat.div_eq_of_lt hi, Nat.zero_add]
theorem numL_length (x : MatM) : (numL x).length = x.rows.toNat * x.cols.toNat := by simp [numL, numTo]
theorem fin_tab (x : MatM) : finL x.tab = finL (numL x) := by
  have h1 : finL x.tab = true ↔ finL (numL x) = true := by
    rw [finL_iff, finL_iff, MatM.tab_length, numL_length]
    constructor
    · intro h k hk
      have hR : 0 < x.rows.toNat := Nat.pos_of_ne_zero (fun e => by rw [e] at hk; omega)
      have h2 : k % x.rows.toNat < x.rows.toNat := Nat.mod_lt _ hR
      have h3 : k / x.rows.toNat < x.cols.toNat := by rw [Nat.div_lt_iff_lt_mul hR, Nat.mul_comm]; exact hk
      have e : k = k / x.rows.toNat * x.rows.toNat + k % x.rows.toNat := (Nat.div_add_mod' k _).symm
      rw [e, numL_getD x h2 h3, ← x.tab_hold.get _ _ h2 h3]
      refine h _ ?_
      exact at_lt h2 h3
    · intro h k hk
      have hC : 0 < x.cols.toNat := Nat.pos_of_ne_zero (fun e => by rw [e] at hk; omega)
      have h2 : k % x.cols.toNat < x.cols.toNat := Nat.mod_lt _ hC
      have h3 : k / x.cols.toNat < x.rows.toNat := by rw [Nat.div_lt_iff_lt_mul hC]; exact hk
      have e : k = k / x.cols.toNat * x.cols.toNat + k % x.cols.toNat := (Nat.div_add_mod' k _).symm
      rw [e]
      have := x.tab_hold.get _ _ h3 h2
      rw [show x.tab.getD (k / x.cols.toNat * x.cols.toNat + k % x.cols.toNat) 0 = x.num (k / x.cols.toNat) (k % x.cols.toNat) from this, ← numL_getD x h3 h2]
      refine h _ ?_
      have := Nat.mul_le_mul_right x.rows.toNat (show k % x.cols.toNat + 1 ≤ x.cols.toNat by omega)
      rw [Nat.add_mul, Nat.mul_comm x.cols.toNat] at this; omega
  cases h2 : finL x.tab <;> cases h3 : finL (numL x) <;> simp_all
theorem FactsOut.empty {M : Nat → Nat → Nat} {R C : Nat} {a : Int} {r c : List Int} (h : FactsOut M R C a r c) (ha : a ≠ 0) : r = [] ∧ c = [] := by
  rcases h with ⟨i, _, h2, _, _, h5, h6⟩ | ⟨_, j, _, h2, _, _, h5, h6⟩ | ⟨_, _, h2, _⟩
  · exact ⟨h5, h6⟩
  · exact ⟨h5, h6⟩
  · exact absurd h2 ha
theorem FactsOut.len {M : Nat → Nat → Nat} {R C : Nat} {a : Int} {r c : List Int} (h : FactsOut M R C a r c) : r.length ≤ R ∧ c.length ≤ C := by
  rcases h with ⟨i, _, h2, _, _, h5, h6⟩ | ⟨_, j, _, h2, _, _, h5, h6⟩ | ⟨_, _, h2, h3, h4⟩
  · rw [h5, h6]; simp
  · rw [h5, h6]; simp
  · rw [h3, h4, rowsTo'_length, colsTo'_length]; omega
set_option maxRecDepth 100000 in
set_option maxHeartbeats 8000000 in
theorem equilFactors_any (x : MatM) (D : Value) (w : World) (hD : FS w D x.ws) (hwf : x.wf) :
    Calls Try.prog 18 #[.agg #[D, .int .i64 x.off, .int .i64 x.rows, .int .i64 x.cols, .int .i64 x.ld]] w (fun e w' => e = .returned (.bool true) ∧ ∃ o n, w' = ext w o n) := by
  have hgt : ∀ w', FS w' D x.ws → Calls Try.prog 42 #[.agg #[D, .int .i64 x.off, .int .i64 x.rows, .int .i64 x.cols, .int .i64 x.ld]] w' (fun e w2 => e = .returned (.bool (MatM.great x)) ∧ ∃ o n, w2 = ext w' o n) := fun w' h => great_any x D w' h
  have hgd : ∀ w', FS w' D x.ws → Calls Try.prog 46 #[.agg #[D, .int .i64 x.off, .int .i64 x.rows, .int .i64 x.cols, .int .i64 x.ld]] w' (fun e w2 => e = .returned (.bool x.good) ∧ ∃ o n, w2 = ext w' o n) := fun w' h => rgood_any x D w' h hwf
  cases hg : MatM.great x
  · rw [hg] at hgt
    have hll : x.ws.length ≤ 1000 ∧ x.rows ≤ 20 ∧ x.cols ≤ 20 := by
      unfold MatM.great at hg
      simp only [Bool.or_eq_false_iff, decide_eq_false_iff_not] at hg
      omega
    cases hgo : x.good
    · rw [hgo] at hgd
      have hef : ∀ w', FS w' D x.ws → Calls Try.prog 102 #[.agg #[D, .int .i64 x.off, .int .i64 x.rows, .int .i64 x.cols, .int .i64 x.ld]] w' (fun e w2 => e = .returned (.tuple #[.slice none 0 0, .slice none 0 0, .int .i64 0, .int .i64 1]) ∧ ∃ o n, w2 = ext w' o n) := fun w' h => by
        have := efact_bad x D w' h hwf (by omega) (by omega) (by omega) (.inl hgo)
        rw [hgo] at this; exact this
      clear hg hgo hwf
      go_enter Try.func18, Try.ntmps18
      refine seq_stop ?_
      go_wp2
      refine stop_go (fun W hW => ?_)
      have s1 : w.heap.size < W.heap.size := by rw [hW]; simp only [World.size_alloc]; omega
      have b1 : ∀ i, W.cell? ⟨w.heap.size, i, none⟩ = (#[D, .int .i64 x.off, .int .i64 x.rows, .int .i64 x.cols, .int .i64 x.ld] : Array Value)[i]? := by intro i; rw [hW]; go_simp
      have g0 : Grew w W := by rw [hW]; exact (Grew.refl _).alloc _
      clear hW
      have hDW := hD.grew g0
      go_wp2_with (first | (go_at_call 101; ((with_reducible refine (awake15 _).mono ?_); rintro e w1 ⟨rfl, o1, n1, rfl⟩)) | (go_at_call 101; ((with_reducible refine (awake15 _).mono ?_); rintro e w9 ⟨rfl, o9, n9, rfl⟩)) | (go_at_call 42; ((with_reducible refine (hgt _ ?_).mono ?_); (focus (first | (with_reducible assumption) | (with_reducible refine FS.ext ?_ _ _; with_reducible assumption) | (with_reducible refine IS.ext ?_ _ _; with_reducible assumption) | (refine hDu _ ?_; with_reducible assumption) | (refine hOu _ ?_; with_reducible assumption) | (refine hDa _ ?_; with_reducible assumption) | (refine hDb _ ?_; with_reducible assumption) | (refine hDc _ ?_; with_reducible assumption) | (refine hDd _ ?_; with_reducible assumption) | (refine FW.fs ?_ (by omega) _; with_reducible assumption) | (refine WS.fs ?_; with_reducible assumption) | (refine FW.fs ?_ (by omega) _; assumption) | omega | assumption)); rintro e w1 ⟨rfl, o1, n1, rfl⟩)) | (go_at_call 46; ((with_reducible refine (hgd _ ?_).mono ?_); (focus (first | (with_reducible assumption) | (with_reducible refine FS.ext ?_ _ _; with_reducible assumption) | (with_reducible refine IS.ext ?_ _ _; with_reducible assumption) | (refine hDu _ ?_; with_reducible assumption) | (refine hOu _ ?_; with_reducible assumption) | (refine hDa _ ?_; with_reducible assumption) | (refine hDb _ ?_; with_reducible assumption) | (refine hDc _ ?_; with_reducible assumption) | (refine hDd _ ?_; with_reducible assumption) | (refine FW.fs ?_ (by omega) _; with_reducible assumption) | (refine WS.fs ?_; with_reducible assumption) | (refine FW.fs ?_ (by omega) _; assumption) | omega | assumption)); rintro e w1 ⟨rfl, o1, n1, rfl⟩)) | (go_at_call 102; ((with_reducible refine (hef _ ?_).mono ?_); (focus (first | (with_reducible assumption) | (with_reducible refine FS.ext ?_ _ _; with_reducible assumption) | (with_reducible refine IS.ext ?_ _ _; with_reducible assumption) | (refine hDu _ ?_; with_reducible assumption) | (refine hOu _ ?_; with_reducible assumption) | (refine hDa _ ?_; with_reducible assumption) | (refine hDb _ ?_; with_reducible assumption) | (refine hDc _ ?_; with_reducible assumption) | (refine hDd _ ?_; with_reducible assumption) | (refine FW.fs ?_ (by omega) _; with_reducible assumption) | (refine WS.fs ?_; with_reducible assumption) | (refine FW.fs ?_ (by omega) _; assumption) | omega | assumption)); rintro e w1 ⟨rfl, o1, n1, rfl⟩)))
      go_ret
      exact ⟨rfl, by (show Grew _ _; repeat (first | (with_reducible exact Grew.refl _) | (with_reducible assumption) | (with_reducible exact Grew.same_o) | (with_reducible exact Grew.app_o) | (with_reducible refine Grew.ext ?_ _ _) | (with_reducible refine Grew.alloc ?_ _) | ((with_reducible refine Grew.setCell ?_ ?_ _); rotate_left; (focus (dsimp only; first | omega | (simp only [size_ext, World.size_alloc, Array.size_append]; omega)))) | (with_reducible refine Grew.drewN ?_ _) | (with_reducible refine Grew.drew ?_)))⟩
    · rw [hgo] at hgd
      have hrof : ∀ w', FS w' D x.ws → Calls Try.prog 48 #[.agg #[D, .int .i64 x.off, .int .i64 x.rows, .int .i64 x.cols, .int .i64 x.ld]] w' (fun e w2 => ∃ v, e = .returned (.agg #[.int .i64 x.rows, .int .i64 x.cols, v]) ∧ FS w2 v x.tab ∧ ∃ o n, w2 = ext w' o n) := fun w' h => by
        refine (rof_any x D w' h hgo (by omega) (by omega) (by omega) hwf).mono fun e w2 hh => ?_
        obtain ⟨v, rfl, q1, q2⟩ := hh
        exact ⟨v, rfl, q1.fs, q2⟩
      have hfl : ∀ v w', FS w' v x.tab → Calls Try.prog 25 #[v] w' (fun e w2 => e = .returned (.bool (finL (numL x))) ∧ w' = w2) := fun v w' h => by
        have := finite_any v x.tab w' h; rw [fin_tab] at this; exact this
      cases hfi : finL (numL x)
      · rw [hfi] at hfl
        have hef : ∀ w', FS w' D x.ws → Calls Try.prog 102 #[.agg #[D, .int .i64 x.off, .int .i64 x.rows, .int .i64 x.cols, .int .i64 x.ld]] w' (fun e w2 => e = .returned (.tuple #[.slice none 0 0, .slice none 0 0, .int .i64 0, .int .i64 8]) ∧ ∃ o n, w2 = ext w' o n) := fun w' h => by
          have := efact_bad x D w' h hwf (by omega) (by omega) (by omega) (.inr hfi)
          rw [hgo] at this; exact this
        obtain ⟨TB, hTB⟩ : ∃ TB, TB = x.tab := ⟨_, rfl⟩
        rw [← hTB] at hrof hfl
        clear hg hgo hwf hfi hTB
        go_enter Try.func18, Try.ntmps18
        refine seq_stop ?_
        go_wp2
        refine stop_go (fun W hW => ?_)
        have s1 : w.heap.size < W.heap.size := by rw [hW]; simp only [World.size_alloc]; omega
        have b1 : ∀ i, W.cell? ⟨w.heap.size, i, none⟩ = (#[D, .int .i64 x.off, .int .i64 x.rows, .int .i64 x.cols, .int .i64 x.ld] : Array Value)[i]? := by intro i; rw [hW]; go_simp
        have g0 : Grew w W := by rw [hW]; exact (Grew.refl _).alloc _
        clear hW
        have hDW := hD.grew g0
        go_wp2_with (first | (go_at_call 101; ((with_reducible refine (awake15 _).mono ?_); rintro e w1 ⟨rfl, o1, n1, rfl⟩)) | (go_at_call 101; ((with_reducible refine (awake15 _).mono ?_); rintro e w9 ⟨rfl, o9, n9, rfl⟩)) | (go_at_call 42; ((with_reducible refine (hgt _ ?_).mono ?_); (focus (first | (with_reducible assumption) | (with_reducible refine FS.ext ?_ _ _; with_reducible assumption) | (with_reducible refine IS.ext ?_ _ _; with_reducible assumption) | (refine hDu _ ?_; with_reducible assumption) | (refine hOu _ ?_; with_reducible assumption) | (refine hDa _ ?_; with_reducible assumption) | (refine hDb _ ?_; with_reducible assumption) | (refine hDc _ ?_; with_reducible assumption) | (refine hDd _ ?_; with_reducible assumption) | (refine FW.fs ?_ (by omega) _; with_reducible assumption) | (refine WS.fs ?_; with_reducible assumption) | (refine FW.fs ?_ (by omega) _; assumption) | omega | assumption)); rintro e w1 ⟨rfl, o1, n1, rfl⟩)) | (go_at_call 46; ((with_reducible refine (hgd _ ?_).mono ?_); (focus (first | (with_reducible assumption) | (with_reducible refine FS.ext ?_ _ _; with_reducible assumption) | (with_reducible refine IS.ext ?_ _ _; with_reducible assumption) | (refine hDu _ ?_; with_reducible assumption) | (refine hOu _ ?_; with_reducible assumption) | (refine hDa _ ?_; with_reducible assumption) | (refine hDb _ ?_; with_reducible assumption) | (refine hDc _ ?_; with_reducible assumption) | (refine hDd _ ?_; with_reducible assumption) | (refine FW.fs ?_ (by omega) _; with_reducible assumption) | (refine WS.fs ?_; with_reducible assumption) | (refine FW.fs ?_ (by omega) _; assumption) | omega | assumption)); rintro e w1 ⟨rfl, o1, n1, rfl⟩)) | (go_at_call 102; ((with_reducible refine (hef _ ?_).mono ?_); (focus (first | (with_reducible assumption) | (with_reducible refine FS.ext ?_ _ _; with_reducible assumption) | (with_reducible refine IS.ext ?_ _ _; with_reducible assumption) | (refine hDu _ ?_; with_reducible assumption) | (refine hOu _ ?_; with_reducible assumption) | (refine hDa _ ?_; with_reducible assumption) | (refine hDb _ ?_; with_reducible assumption) | (refine hDc _ ?_; with_reducible assumption) | (refine hDd _ ?_; with_reducible assumption) | (refine FW.fs ?_ (by omega) _; with_reducible assumption) | (refine WS.fs ?_; with_reducible assumption) | (refine FW.fs ?_ (by omega) _; assumption) | omega | assumption)); rintro e w1 ⟨rfl, o1, n1, rfl⟩)) | (go_at_call 48; ((with_reducible refine (hrof _ ?_).mono ?_); (focus (first | (with_reducible assumption) | (with_reducible refine FS.ext ?_ _ _; with_reducible assumption) | (with_reducible refine IS.ext ?_ _ _; with_reducible assumption) | (refine hDu _ ?_; with_reducible assumption) | (refine hOu _ ?_; with_reducible assumption) | (refine hDa _ ?_; with_reducible assumption) | (refine hDb _ ?_; with_reducible assumption) | (refine hDc _ ?_; with_reducible assumption) | (refine hDd _ ?_; with_reducible assumption) | (refine FW.fs ?_ (by omega) _; with_reducible assumption) | (refine WS.fs ?_; with_reducible assumption) | (refine FW.fs ?_ (by omega) _; assumption) | omega | assumption)); rintro e w1 ⟨v, rfl, hv, o1, n1, rfl⟩; (obtain ⟨va, vc, rfl⟩ := hv.shape); (try simp only [drew_ext, drewN_ext, ext_ext] at hv))) | (go_at_call 25; ((with_reducible refine (hfl _ _ (hv.grew (by (show Grew _ _; (try simp only [← Array.append_assoc]); repeat (first | (with_reducible exact Grew.same_o) | (with_reducible exact Grew.refl _) | (with_reducible assumption) | (with_reducible refine Grew.alloc ?_ _) | (with_reducible refine Grew.app_r ?_) | ((with_reducible refine Grew.setCell ?_ ?_ _); rotate_left; (focus (dsimp only; first | omega | (simp only [size_ext, World.size_alloc, Array.size_append]; omega)))) | (with_reducible refine Grew.ext ?_ _ _) | (with_reducible refine Grew.drewN ?_ _) | (with_reducible refine Grew.drew ?_)))))).mono ?_); rintro e w1 ⟨rfl, rfl⟩)))
        go_ret
        exact ⟨rfl, by (show Grew _ _; repeat (first | (with_reducible exact Grew.refl _) | (with_reducible assumption) | (with_reducible exact Grew.same_o) | (with_reducible exact Grew.app_o) | (with_reducible refine Grew.ext ?_ _ _) | (with_reducible refine Grew.alloc ?_ _) | ((with_reducible refine Grew.setCell ?_ ?_ _); rotate_left; (focus (dsimp only; first | omega | (simp only [size_ext, World.size_alloc, Array.size_append]; omega)))) | (with_reducible refine Grew.drewN ?_ _) | (with_reducible refine Grew.drew ?_)))⟩
      · rw [hfi] at hfl
        have hn := MatM.good_n hgo
        obtain ⟨R, hR⟩ : ∃ R : Nat, x.rows = R := ⟨x.rows.toNat, by omega⟩
        obtain ⟨C, hC⟩ : ∃ C : Nat, x.cols = C := ⟨x.cols.toNat, by omega⟩
        have hef := fun w' h => efact_ok x D R C w' h hgo hwf (by omega) hR hC (by omega) (by omega) hfi
        have hrf := fun v w' h => rfact_any x.num R C v x.tab w' h (by rw [MatM.tab_length, hR, hC]; rfl) (fun i j hi hj => by
          have := x.tab_hold.get i j (by rw [hR]; exact hi) (by rw [hC]; exact hj)
          rw [hC] at this; exact this) (by omega) (by omega)
        rw [hR, hC] at hgt hgd hrof ⊢
        obtain ⟨M, hM⟩ : ∃ M, M = x.num := ⟨_, rfl⟩
        rw [← hM] at hef hrf
        obtain ⟨TB, hTB⟩ : ∃ TB, TB = x.tab := ⟨_, rfl⟩
        rw [← hTB] at hrof hfl hrf
        have hr20 : R ≤ 1000 := by omega
        have hc20 : C ≤ 1000 := by omega
        clear hg hgo hwf hfi hn hR hC hM hll hTB
        go_enter Try.func18, Try.ntmps18
        refine seq_stop ?_
        go_wp2
        refine stop_go (fun W hW => ?_)
        have s1 : w.heap.size < W.heap.size := by rw [hW]; simp only [World.size_alloc]; omega
        have b1 : ∀ i, W.cell? ⟨w.heap.size, i, none⟩ = (#[D, .int .i64 x.off, .int .i64 R, .int .i64 C, .int .i64 x.ld] : Array Value)[i]? := by intro i; rw [hW]; go_simp
        have g0 : Grew w W := by rw [hW]; exact (Grew.refl _).alloc _
        clear hW
        have hDW := hD.grew g0
        go_upto_region 12 with (first | (go_at_call 101; ((with_reducible refine (awake15 _).mono ?_); rintro e w1 ⟨rfl, o1, n1, rfl⟩)) | (go_at_call 42; ((with_reducible refine (hgt _ ?_).mono ?_); (focus (first | (with_reducible assumption) | (with_reducible refine FS.ext ?_ _ _; with_reducible assumption) | (with_reducible refine IS.ext ?_ _ _; with_reducible assumption) | (refine hDu _ ?_; with_reducible assumption) | (refine hOu _ ?_; with_reducible assumption) | (refine hDa _ ?_; with_reducible assumption) | (refine hDb _ ?_; with_reducible assumption) | (refine hDc _ ?_; with_reducible assumption) | (refine hDd _ ?_; with_reducible assumption) | (refine FW.fs ?_ (by omega) _; with_reducible assumption) | (refine WS.fs ?_; with_reducible assumption) | (refine FW.fs ?_ (by omega) _; assumption) | omega | assumption)); rintro e w1 ⟨rfl, o1, n1, rfl⟩)) | (go_at_call 46; ((with_reducible refine (hgd _ ?_).mono ?_); (focus (first | (with_reducible assumption) | (with_reducible refine FS.ext ?_ _ _; with_reducible assumption) | (with_reducible refine IS.ext ?_ _ _; with_reducible assumption) | (refine hDu _ ?_; with_reducible assumption) | (refine hOu _ ?_; with_reducible assumption) | (refine hDa _ ?_; with_reducible assumption) | (refine hDb _ ?_; with_reducible assumption) | (refine hDc _ ?_; with_reducible assumption) | (refine hDd _ ?_; with_reducible assumption) | (refine FW.fs ?_ (by omega) _; with_reducible assumption) | (refine WS.fs ?_; with_reducible assumption) | (refine FW.fs ?_ (by omega) _; assumption) | omega | assumption)); rintro e w1 ⟨rfl, o1, n1, rfl⟩)) | (go_at_call 102; ((with_reducible refine (hef _ ?_).mono ?_); (focus (first | (with_reducible assumption) | (with_reducible refine FS.ext ?_ _ _; with_reducible assumption) | (with_reducible refine IS.ext ?_ _ _; with_reducible assumption) | (refine hDu _ ?_; with_reducible assumption) | (refine hOu _ ?_; with_reducible assumption) | (refine hDa _ ?_; with_reducible assumption) | (refine hDb _ ?_; with_reducible assumption) | (refine hDc _ ?_; with_reducible assumption) | (refine hDd _ ?_; with_reducible assumption) | (refine FW.fs ?_ (by omega) _; with_reducible assumption) | (refine WS.fs ?_; with_reducible assumption) | (refine FW.fs ?_ (by omega) _; assumption) | omega | assumption)); rintro e w1 ⟨v1, v2, a, rs, cs, rfl, hO, hv1, hv2, o1, n1, rfl⟩; (try simp only [drew_ext, drewN_ext, ext_ext] at hv1 hv2))) | (go_at_call 48; ((with_reducible refine (hrof _ ?_).mono ?_); (focus (first | (with_reducible assumption) | (with_reducible refine FS.ext ?_ _ _; with_reducible assumption) | (with_reducible refine IS.ext ?_ _ _; with_reducible assumption) | (refine hDu _ ?_; with_reducible assumption) | (refine hOu _ ?_; with_reducible assumption) | (refine hDa _ ?_; with_reducible assumption) | (refine hDb _ ?_; with_reducible assumption) | (refine hDc _ ?_; with_reducible assumption) | (refine hDd _ ?_; with_reducible assumption) | (refine FW.fs ?_ (by omega) _; with_reducible assumption) | (refine WS.fs ?_; with_reducible assumption) | (refine FW.fs ?_ (by omega) _; assumption) | omega | assumption)); rintro e w1 ⟨v, rfl, hv, o1, n1, rfl⟩; (obtain ⟨va, vc, rfl⟩ := hv.shape); (try simp only [drew_ext, drewN_ext, ext_ext] at hv))) | (go_at_call 25; ((with_reducible refine (hfl _ _ (hv.grew (by (show Grew _ _; (try simp only [← Array.append_assoc]); repeat (first | (with_reducible exact Grew.same_o) | (with_reducible exact Grew.refl _) | (with_reducible assumption) | (with_reducible refine Grew.alloc ?_ _) | (with_reducible refine Grew.app_r ?_) | ((with_reducible refine Grew.setCell ?_ ?_ _); rotate_left; (focus (dsimp only; first | omega | (simp only [size_ext, World.size_alloc, Array.size_append]; omega)))) | (with_reducible refine Grew.ext ?_ _ _) | (with_reducible refine Grew.drewN ?_ _) | (with_reducible refine Grew.drew ?_)))))).mono ?_); rintro e w1 ⟨rfl, rfl⟩)) | (go_at_call 103; ((with_reducible refine (hrf _ _ (hv.grew (by (show Grew _ _; (try simp only [← Array.append_assoc]); repeat (first | (with_reducible exact Grew.same_o) | (with_reducible exact Grew.refl _) | (with_reducible assumption) | (with_reducible refine Grew.alloc ?_ _) | (with_reducible refine Grew.app_r ?_) | ((with_reducible refine Grew.setCell ?_ ?_ _); rotate_left; (focus (dsimp only; first | omega | (simp only [size_ext, World.size_alloc, Array.size_append]; omega)))) | (with_reducible refine Grew.ext ?_ _ _) | (with_reducible refine Grew.drewN ?_ _) | (with_reducible refine Grew.drew ?_)))))).mono ?_); rintro e w1 ⟨v3, v4, a2, rs2, cs2, rfl, hO2, hv3, hv4, o1, n1, rfl⟩; (try simp only [drew_ext, drewN_ext, ext_ext] at hv3 hv4))))
        obtain ⟨rfl, rfl, rfl⟩ := hO.unique hO2
        have hln := hO.len
        by_cases ha : a = 0
        · subst ha
          have e0 : errF 0 = 0 := rfl
          clear hO hO2 hef hrf hrof hgt hgd hfl
          go_wp2_with (first | (go_at_call 101; ((with_reducible refine (awake15 _).mono ?_); rintro e w9 ⟨rfl, o9, n9, rfl⟩)) | (go_at_call 104; ((with_reducible refine (ints_same _ _ rs _ (hv1.grew (by (show Grew _ _; (try simp only [← Array.append_assoc]); repeat (first | (with_reducible exact Grew.same_o) | (with_reducible exact Grew.refl _) | (with_reducible assumption) | (with_reducible refine Grew.alloc ?_ _) | (with_reducible refine Grew.app_r ?_) | ((with_reducible refine Grew.setCell ?_ ?_ _); rotate_left; (focus (dsimp only; first | omega | (simp only [size_ext, World.size_alloc, Array.size_append]; omega)))) | (with_reducible refine Grew.ext ?_ _ _) | (with_reducible refine Grew.drewN ?_ _) | (with_reducible refine Grew.drew ?_))))) (hv3.grew (by (show Grew _ _; (try simp only [← Array.append_assoc]); repeat (first | (with_reducible exact Grew.same_o) | (with_reducible exact Grew.refl _) | (with_reducible assumption) | (with_reducible refine Grew.alloc ?_ _) | (with_reducible refine Grew.app_r ?_) | ((with_reducible refine Grew.setCell ?_ ?_ _); rotate_left; (focus (dsimp only; first | omega | (simp only [size_ext, World.size_alloc, Array.size_append]; omega)))) | (with_reducible refine Grew.ext ?_ _ _) | (with_reducible refine Grew.drewN ?_ _) | (with_reducible refine Grew.drew ?_))))) (by omega)).mono ?_); rintro e w3 ⟨rfl, o3, n3, rfl⟩)) | (go_at_call 104; ((with_reducible refine (ints_same _ _ cs _ (hv2.grew (by (show Grew _ _; (try simp only [← Array.append_assoc]); repeat (first | (with_reducible exact Grew.same_o) | (with_reducible exact Grew.refl _) | (with_reducible assumption) | (with_reducible refine Grew.alloc ?_ _) | (with_reducible refine Grew.app_r ?_) | ((with_reducible refine Grew.setCell ?_ ?_ _); rotate_left; (focus (dsimp only; first | omega | (simp only [size_ext, World.size_alloc, Array.size_append]; omega)))) | (with_reducible refine Grew.ext ?_ _ _) | (with_reducible refine Grew.drewN ?_ _) | (with_reducible refine Grew.drew ?_))))) (hv4.grew (by (show Grew _ _; (try simp only [← Array.append_assoc]); repeat (first | (with_reducible exact Grew.same_o) | (with_reducible exact Grew.refl _) | (with_reducible assumption) | (with_reducible refine Grew.alloc ?_ _) | (with_reducible refine Grew.app_r ?_) | ((with_reducible refine Grew.setCell ?_ ?_ _); rotate_left; (focus (dsimp only; first | omega | (simp only [size_ext, World.size_alloc, Array.size_append]; omega)))) | (with_reducible refine Grew.ext ?_ _ _) | (with_reducible refine Grew.drewN ?_ _) | (with_reducible refine Grew.drew ?_))))) (by omega)).mono ?_); rintro e w3 ⟨rfl, o3, n3, rfl⟩)))
          go_ret
          exact ⟨rfl, by (show Grew _ _; repeat (first | (with_reducible exact Grew.refl _) | (with_reducible assumption) | (with_reducible exact Grew.same_o) | (with_reducible exact Grew.app_o) | (with_reducible refine Grew.ext ?_ _ _) | (with_reducible refine Grew.alloc ?_ _) | ((with_reducible refine Grew.setCell ?_ ?_ _); rotate_left; (focus (dsimp only; first | omega | (simp only [size_ext, World.size_alloc, Array.size_append]; omega)))) | (with_reducible refine Grew.drewN ?_ _) | (with_reducible refine Grew.drew ?_)))⟩
        · obtain ⟨rfl, rfl⟩ := hO.empty ha
          have e4 : errF a = 4 := by unfold errF; rw [if_neg ha]
          have d1 : (a != 0) = true := by simpa using ha
          have d2 : (a == a) = true := by simp
          obtain ⟨a1, c1, rfl⟩ := hv1.shape
          obtain ⟨a2, c2, rfl⟩ := hv2.shape
          clear hO hO2 hef hrf hrof hgt hgd hfl ha
          go_wp2_with (first | (go_at_call 101; ((with_reducible refine (awake15 _).mono ?_); rintro e w9 ⟨rfl, o9, n9, rfl⟩)))
          go_ret
          exact ⟨rfl, by (show Grew _ _; repeat (first | (with_reducible exact Grew.refl _) | (with_reducible assumption) | (with_reducible exact Grew.same_o) | (with_reducible exact Grew.app_o) | (with_reducible refine Grew.ext ?_ _ _) | (with_reducible refine Grew.alloc ?_ _) | ((with_reducible refine Grew.setCell ?_ ?_ _); rotate_left; (focus (dsimp only; first | omega | (simp only [size_ext, World.size_alloc, Array.size_append]; omega)))) | (with_reducible refine Grew.drewN ?_ _) | (with_reducible refine Grew.drew ?_)))⟩
  · rw [hg] at hgt
    clear hgd hg hwf
    go_enter Try.func18, Try.ntmps18
    refine seq_stop ?_
    go_wp2
    refine stop_go (fun W hW => ?_)
    have s1 : w.heap.size < W.heap.size := by rw [hW]; simp only [World.size_alloc]; omega
    have b1 : ∀ i, W.cell? ⟨w.heap.size, i, none⟩ = (#[D, .int .i64 x.off, .int .i64 x.rows, .int .i64 x.cols, .int .i64 x.ld] : Array Value)[i]? := by intro i; rw [hW]; go_simp
    have g0 : Grew w W := by rw [hW]; exact (Grew.refl _).alloc _
    clear hW
    have hDW := hD.grew g0
    go_wp2_with (first | (go_at_call 101; ((with_reducible refine (awake15 _).mono ?_); rintro e w1 ⟨rfl, o1, n1, rfl⟩)) | (go_at_call 42; ((with_reducible refine (hgt _ ?_).mono ?_); (focus (first | (with_reducible assumption) | (with_reducible refine FS.ext ?_ _ _; with_reducible assumption) | (with_reducible refine IS.ext ?_ _ _; with_reducible assumption) | (refine hDu _ ?_; with_reducible assumption) | (refine hOu _ ?_; with_reducible assumption) | (refine hDa _ ?_; with_reducible assumption) | (refine hDb _ ?_; with_reducible assumption) | (refine hDc _ ?_; with_reducible assumption) | (refine hDd _ ?_; with_reducible assumption) | (refine FW.fs ?_ (by omega) _; with_reducible assumption) | (refine WS.fs ?_; with_reducible assumption) | (refine FW.fs ?_ (by omega) _; assumption) | omega | assumption)); rintro e w1 ⟨rfl, o1, n1, rfl⟩)))
    go_ret
    exact ⟨rfl, by (show Grew _ _; repeat (first | (with_reducible exact Grew.refl _) | (with_reducible assumption) | (with_reducible exact Grew.same_o) | (with_reducible exact Grew.app_o) | (with_reducible refine Grew.ext ?_ _ _) | (with_reducible refine Grew.alloc ?_ _) | ((with_reducible refine Grew.setCell ?_ ?_ _); rotate_left; (focus (dsimp only; first | omega | (simp only [size_ext, World.size_alloc, Array.size_append]; omega)))) | (with_reducible refine Grew.drewN ?_ _) | (with_reducible refine Grew.drew ?_)))⟩
end Go.Proofs.Ytcmggfpcbijcjaa
end
section
/-
  The dump's head as a list of signs, laid by their numbers: the kernel reckons on such a list, not on the text.
-/
set_option linter.unusedSimpArgs false
set_option linter.unusedVariables false
namespace Go.Proofs.Ytcmggfpcbijcjaa
theorem may_cut {P : Program} {c : List Char} {rest : List (List Char)} (h : behindMainWord (wordsSigns P.initOrder.toList) = c :: rest) (hs : stripLifts liftWords (c :: rest) = ([], c :: rest))
    (hc : (c == "cut".toList) = true) (hl : P.laysLater = false) (hr : P.bearsReflect = false) (hd : P.doorFits [] = true) : P.mayEnter = true := by
  have hc' : c = "cut".toList := by simpa using hc
  unfold Program.mayEnter
  rw [h]
  simp only [hs, hl, hr, hd, List.head?_cons, List.contains_nil, Bool.false_or, Bool.not_false, Bool.and_true, Bool.or_true]
  rw [hc']
  simp
theorem final_cut {P : Program} {c : List Char} {rest : List (List Char)} (h : behindMainWord (wordsSigns P.initOrder.toList) = c :: rest) (hs : stripLifts liftWords (c :: rest) = ([], c :: rest))
    (hc : (c == "carried".toList) = false) : P.liftsFinal = false := by
  unfold Program.liftsFinal Program.headLifts
  simp only [h, hs, List.head?_cons, List.contains_nil, ite_self, Bool.or_false]
  have : (some c == some "carried".toList) = false := by simpa using hc
  rw [this]
  rfl
theorem make_cut {P : Program} {c : List Char} {rest : List (List Char)} (h : behindMainWord (wordsSigns P.initOrder.toList) = c :: rest)
    (h1 : (c == "gc".toList || c == "spec".toList) = false) (h2 : (c == "cut".toList) = true) : P.make = some .cut := by
  unfold Program.make
  rw [h]
  simp only [h1, h2, Bool.true_or, Bool.false_eq_true, if_false, if_true]
def headCodes : List Nat := [
  104, 97, 114, 110, 101, 115, 115, 32, 51, 102, 52, 100, 97, 51, 56, 49, 53, 101, 98, 97, 49, 97, 55, 99, 97, 51, 97, 53, 57, 98, 51, 57, 53, 55, 97, 97, 53, 56, 102, 57,
  54, 102, 100, 51, 48, 56, 99, 48, 99, 51, 57, 99, 54, 57, 56, 51, 57, 48, 54, 97, 99, 49, 97, 102, 48, 98, 102, 98, 49, 100, 49, 54, 32, 99, 117, 116, 32, 97, 116, 32,
  115, 116, 114, 97, 105, 103, 104, 116, 101, 100, 103, 101, 47, 115, 116, 114, 97, 105, 103, 104, 116, 101, 100, 103, 101, 108, 97, 119, 48, 54, 46, 65, 120, 101, 115, 67, 108, 111, 115, 101,
  32, 115, 116, 114, 97, 105, 103, 104, 116, 101, 100, 103, 101, 47, 115, 116, 114, 97, 105, 103, 104, 116, 101, 100, 103, 101, 108, 97, 119, 48, 53, 46, 83, 117, 109, 115, 76, 105, 115, 116,
  115, 32, 115, 116, 114, 97, 105, 103, 104, 116, 101, 100, 103, 101, 47, 115, 116, 114, 97, 105, 103, 104, 116, 101, 100, 103, 101, 108, 97, 119, 48, 52, 46, 77, 111, 118, 101, 82, 111, 119,
  115, 32, 115, 116, 114, 97, 105, 103, 104, 116, 101, 100, 103, 101, 47, 115, 116, 114, 97, 105, 103, 104, 116, 101, 100, 103, 101, 108, 97, 119, 48, 56, 46, 71, 101, 114, 84, 101, 108, 108,
  115, 32, 115, 116, 114, 97, 105, 103, 104, 116, 101, 100, 103, 101, 47, 115, 116, 114, 97, 105, 103, 104, 116, 101, 100, 103, 101, 108, 97, 119, 48, 52, 46, 77, 111, 118, 101, 86, 101, 99,
  116, 111, 114, 115, 32, 115, 116, 114, 97, 105, 103, 104, 116, 101, 100, 103, 101, 47, 115, 116, 114, 97, 105, 103, 104, 116, 101, 100, 103, 101, 108, 97, 119, 48, 55, 46, 71, 101, 109, 118,
  67, 108, 111, 115, 101, 32, 115, 116, 114, 97, 105, 103, 104, 116, 101, 100, 103, 101, 47, 115, 116, 114, 97, 105, 103, 104, 116, 101, 100, 103, 101, 108, 97, 119, 49, 49, 46, 71, 101, 109,
  109, 84, 101, 108, 108, 115, 32, 115, 116, 114, 97, 105, 103, 104, 116, 101, 100, 103, 101, 47, 115, 116, 114, 97, 105, 103, 104, 116, 101, 100, 103, 101, 108, 97, 119, 48, 57, 46, 84, 114,
  115, 118, 83, 111, 108, 118, 101, 115, 32, 115, 116, 114, 97, 105, 103, 104, 116, 101, 100, 103, 101, 47, 115, 116, 114, 97, 105, 103, 104, 116, 101, 100, 103, 101, 108, 97, 119, 48, 57, 46,
  84, 114, 115, 118, 66, 97, 99, 107, 119, 97, 114, 100, 32, 115, 116, 114, 97, 105, 103, 104, 116, 101, 100, 103, 101, 47, 115, 116, 114, 97, 105, 103, 104, 116, 101, 100, 103, 101, 108, 97,
  119, 48, 55, 46, 71, 101, 109, 118, 84, 117, 114, 110, 115, 32, 115, 116, 114, 97, 105, 103, 104, 116, 101, 100, 103, 101, 47, 115, 116, 114, 97, 105, 103, 104, 116, 101, 100, 103, 101, 108,
  97, 119, 48, 54, 46, 65, 120, 101, 115, 66, 97, 99, 107, 32, 115, 116, 114, 97, 105, 103, 104, 116, 101, 100, 103, 101, 47, 115, 116, 114, 97, 105, 103, 104, 116, 101, 100, 103, 101, 108,
  97, 119, 49, 49, 46, 71, 101, 109, 109, 87, 104, 111, 108, 101, 32, 115, 116, 114, 97, 105, 103, 104, 116, 101, 100, 103, 101, 47, 115, 116, 114, 97, 105, 103, 104, 116, 101, 100, 103, 101,
  108, 97, 119, 50, 50, 46, 82, 101, 115, 105, 100, 66, 111, 117, 110, 100, 115, 32, 115, 116, 114, 97, 105, 103, 104, 116, 101, 100, 103, 101, 47, 115, 116, 114, 97, 105, 103, 104, 116, 101,
  100, 103, 101, 108, 97, 119, 50, 50, 46, 82, 101, 115, 105, 100, 82, 101, 115, 116, 32, 115, 116, 114, 97, 105, 103, 104, 116, 101, 100, 103, 101, 47, 115, 116, 114, 97, 105, 103, 104, 116,
  101, 100, 103, 101, 108, 97, 119, 48, 54, 46, 65, 120, 101, 115, 83, 99, 97, 108, 101, 32, 115, 116, 114, 97, 105, 103, 104, 116, 101, 100, 103, 101, 47, 115, 116, 114, 97, 105, 103, 104,
  116, 101, 100, 103, 101, 108, 97, 119, 49, 53, 46, 69, 113, 117, 105, 108, 70, 97, 99, 116, 111, 114, 115, 32, 115, 116, 114, 97, 105, 103, 104, 116, 101, 100, 103, 101, 47, 115, 116, 114,
  97, 105, 103, 104, 116, 101, 100, 103, 101, 108, 97, 119, 50, 50, 46, 82, 101, 115, 105, 100, 84, 101, 108, 108, 115, 32, 115, 116, 114, 97, 105, 103, 104, 116, 101, 100, 103, 101, 47, 115,
  116, 114, 97, 105, 103, 104, 116, 101, 100, 103, 101, 108, 97, 119, 50, 50, 46, 82, 101, 115, 105, 100, 66, 97, 99, 107, 119, 97, 114, 100, 32, 115, 116, 114, 97, 105, 103, 104, 116, 101,
  100, 103, 101, 47, 115, 116, 114, 97, 105, 103, 104, 116, 101, 100, 103, 101, 108, 97, 119, 49, 53, 46, 69, 113, 117, 105, 108, 76, 105, 107, 101, 32, 115, 116, 114, 97, 105, 103, 104, 116,
  101, 100, 103, 101, 47, 115, 116, 114, 97, 105, 103, 104, 116, 101, 100, 103, 101, 108, 97, 119, 49, 53, 46, 69, 113, 117, 105, 108, 83, 99, 97, 108, 101, 115, 32, 115, 116, 114, 97, 105,
  103, 104, 116, 101, 100, 103, 101, 47, 115, 116, 114, 97, 105, 103, 104, 116, 101, 100, 103, 101, 108, 97, 119, 50, 48, 46, 76, 97, 99, 110, 66, 101, 108, 111, 119]
def headWords : List (List Nat) := [
  [104, 97, 114, 110, 101, 115, 115],
  [51, 102, 52, 100, 97, 51, 56, 49, 53, 101, 98, 97, 49, 97, 55, 99, 97, 51, 97, 53, 57, 98, 51, 57, 53, 55, 97, 97, 53, 56, 102, 57, 54, 102, 100, 51, 48, 56, 99, 48, 99, 51, 57, 99, 54, 57, 56, 51, 57, 48, 54, 97, 99, 49, 97, 102, 48, 98, 102, 98, 49, 100, 49, 54],
  [99, 117, 116],
  [97, 116],
  [115, 116, 114, 97, 105, 103, 104, 116, 101, 100, 103, 101, 47, 115, 116, 114, 97, 105, 103, 104, 116, 101, 100, 103, 101, 108, 97, 119, 48, 54, 46, 65, 120, 101, 115, 67, 108, 111, 115, 101],
  [115, 116, 114, 97, 105, 103, 104, 116, 101, 100, 103, 101, 47, 115, 116, 114, 97, 105, 103, 104, 116, 101, 100, 103, 101, 108, 97, 119, 48, 53, 46, 83, 117, 109, 115, 76, 105, 115, 116, 115],
  [115, 116, 114, 97, 105, 103, 104, 116, 101, 100, 103, 101, 47, 115, 116, 114, 97, 105, 103, 104, 116, 101, 100, 103, 101, 108, 97, 119, 48, 52, 46, 77, 111, 118, 101, 82, 111, 119, 115],
  [115, 116, 114, 97, 105, 103, 104, 116, 101, 100, 103, 101, 47, 115, 116, 114, 97, 105, 103, 104, 116, 101, 100, 103, 101, 108, 97, 119, 48, 56, 46, 71, 101, 114, 84, 101, 108, 108, 115],
  [115, 116, 114, 97, 105, 103, 104, 116, 101, 100, 103, 101, 47, 115, 116, 114, 97, 105, 103, 104, 116, 101, 100, 103, 101, 108, 97, 119, 48, 52, 46, 77, 111, 118, 101, 86, 101, 99, 116, 111, 114, 115],
  [115, 116, 114, 97, 105, 103, 104, 116, 101, 100, 103, 101, 47, 115, 116, 114, 97, 105, 103, 104, 116, 101, 100, 103, 101, 108, 97, 119, 48, 55, 46, 71, 101, 109, 118, 67, 108, 111, 115, 101],
  [115, 116, 114, 97, 105, 103, 104, 116, 101, 100, 103, 101, 47, 115, 116, 114, 97, 105, 103, 104, 116, 101, 100, 103, 101, 108, 97, 119, 49, 49, 46, 71, 101, 109, 109, 84, 101, 108, 108, 115],
  [115, 116, 114, 97, 105, 103, 104, 116, 101, 100, 103, 101, 47, 115, 116, 114, 97, 105, 103, 104, 116, 101, 100, 103, 101, 108, 97, 119, 48, 57, 46, 84, 114, 115, 118, 83, 111, 108, 118, 101, 115],
  [115, 116, 114, 97, 105, 103, 104, 116, 101, 100, 103, 101, 47, 115, 116, 114, 97, 105, 103, 104, 116, 101, 100, 103, 101, 108, 97, 119, 48, 57, 46, 84, 114, 115, 118, 66, 97, 99, 107, 119, 97, 114, 100],
  [115, 116, 114, 97, 105, 103, 104, 116, 101, 100, 103, 101, 47, 115, 116, 114, 97, 105, 103, 104, 116, 101, 100, 103, 101, 108, 97, 119, 48, 55, 46, 71, 101, 109, 118, 84, 117, 114, 110, 115],
  [115, 116, 114, 97, 105, 103, 104, 116, 101, 100, 103, 101, 47, 115, 116, 114, 97, 105, 103, 104, 116, 101, 100, 103, 101, 108, 97, 119, 48, 54, 46, 65, 120, 101, 115, 66, 97, 99, 107],
  [115, 116, 114, 97, 105, 103, 104, 116, 101, 100, 103, 101, 47, 115, 116, 114, 97, 105, 103, 104, 116, 101, 100, 103, 101, 108, 97, 119, 49, 49, 46, 71, 101, 109, 109, 87, 104, 111, 108, 101],
  [115, 116, 114, 97, 105, 103, 104, 116, 101, 100, 103, 101, 47, 115, 116, 114, 97, 105, 103, 104, 116, 101, 100, 103, 101, 108, 97, 119, 50, 50, 46, 82, 101, 115, 105, 100, 66, 111, 117, 110, 100, 115],
  [115, 116, 114, 97, 105, 103, 104, 116, 101, 100, 103, 101, 47, 115, 116, 114, 97, 105, 103, 104, 116, 101, 100, 103, 101, 108, 97, 119, 50, 50, 46, 82, 101, 115, 105, 100, 82, 101, 115, 116],
  [115, 116, 114, 97, 105, 103, 104, 116, 101, 100, 103, 101, 47, 115, 116, 114, 97, 105, 103, 104, 116, 101, 100, 103, 101, 108, 97, 119, 48, 54, 46, 65, 120, 101, 115, 83, 99, 97, 108, 101],
  [115, 116, 114, 97, 105, 103, 104, 116, 101, 100, 103, 101, 47, 115, 116, 114, 97, 105, 103, 104, 116, 101, 100, 103, 101, 108, 97, 119, 49, 53, 46, 69, 113, 117, 105, 108, 70, 97, 99, 116, 111, 114, 115],
  [115, 116, 114, 97, 105, 103, 104, 116, 101, 100, 103, 101, 47, 115, 116, 114, 97, 105, 103, 104, 116, 101, 100, 103, 101, 108, 97, 119, 50, 50, 46, 82, 101, 115, 105, 100, 84, 101, 108, 108, 115],
  [115, 116, 114, 97, 105, 103, 104, 116, 101, 100, 103, 101, 47, 115, 116, 114, 97, 105, 103, 104, 116, 101, 100, 103, 101, 108, 97, 119, 50, 50, 46, 82, 101, 115, 105, 100, 66, 97, 99, 107, 119, 97, 114, 100],
  [115, 116, 114, 97, 105, 103, 104, 116, 101, 100, 103, 101, 47, 115, 116, 114, 97, 105, 103, 104, 116, 101, 100, 103, 101, 108, 97, 119, 49, 53, 46, 69, 113, 117, 105, 108, 76, 105, 107, 101],
  [115, 116, 114, 97, 105, 103, 104, 116, 101, 100, 103, 101, 47, 115, 116, 114, 97, 105, 103, 104, 116, 101, 100, 103, 101, 108, 97, 119, 49, 53, 46, 69, 113, 117, 105, 108, 83, 99, 97, 108, 101, 115],
  [115, 116, 114, 97, 105, 103, 104, 116, 101, 100, 103, 101, 47, 115, 116, 114, 97, 105, 103, 104, 116, 101, 100, 103, 101, 108, 97, 119, 50, 48, 46, 76, 97, 99, 110, 66, 101, 108, 111, 119]]
def W : List (List Char) := headWords.map (·.map Char.ofNat)
theorem head_eq : Try.prog.initOrder = String.ofList (headCodes.map Char.ofNat) := by kernel_rfl
theorem head_list : Try.prog.initOrder.toList = headCodes.map Char.ofNat := by rw [head_eq, String.toList_ofList]
theorem head_words : wordsSigns (headCodes.map Char.ofNat) = W := by kernel_rfl
def cutWord : List Char := W.getD 2 []
def restWords : List (List Char) := W.drop 3
theorem head_split : behindMainWord W = cutWord :: restWords := by kernel_rfl
theorem head_behind : behindMainWord (wordsSigns Try.prog.initOrder.toList) = cutWord :: restWords := by rw [head_list, head_words]; exact head_split
theorem head_strip : stripLifts liftWords (cutWord :: restWords) = ([], cutWord :: restWords) := by kernel_rfl
theorem head_final : Try.prog.liftsFinal = false := final_cut head_behind head_strip (by kernel_rfl)
theorem head_make : Try.prog.make = some .cut := make_cut head_behind (by kernel_rfl) (by kernel_rfl)
theorem head_may : Try.prog.mayEnter = true := may_cut head_behind head_strip (by kernel_rfl) (by kernel_rfl) (by kernel_rfl) (by kernel_rfl)
end Go.Proofs.Ytcmggfpcbijcjaa
end
