/-
  Texts laid one behind the other (a claim has at most 60 files): Berr2, Rberr, Dense, Aw22, Clear, LawTells, Head.
-/
import Derived.Test.YtcmggfpcbijcjaaRows
import Derived.ProofKit
import Derived.Test.YtcmggfpcbijcjaaQResidTells1
import Derived.Test.YtcmggfpcbijcjaaQResidTells2
import Derived.Test.YtcmggfpcbijcjaaQResidTells3
import Derived.Test.YtcmggfpcbijcjaaQResidTells4
import Derived.Test.YtcmggfpcbijcjaaQResidTells5
import Derived.Test.YtcmggfpcbijcjaaQResidTells6
section
/-
  Contracts: resid.Berr.
-/
set_option linter.unusedSimpArgs false
set_option linter.unusedVariables false
open Go Go.RowKit Sedge
namespace Go.Proofs.Ytcmggfpcbijcjaa
theorem FS_one {w : World} {t : TypeId} {r y : Nat} (hr : IsF r y) (n : Nat) (hn : n = w.heap.size) : FS (w.alloc (.cells #[.float .f64 r] t)) (.slice (some ⟨n, 0, none⟩) 1 1) [y] := by
  subst hn
  refine ⟨by simp, _, 1, rfl, (fun h => by cases h), fun i hi => ⟨_, _, r, rfl, ?_, ?_⟩⟩
  · have : i = 0 := by simp at hi; exact hi
    subst this
    rw [World.cell?_alloc_new]; rfl
  · have : i = 0 := by simp at hi; exact hi
    subst this
    exact hr
theorem shapeN {w : World} {v : Value} {ws : List Nat} {N : Nat} (h : FS w v ws) (hl : ws.length = N) : ∃ a c, v = .slice a N c := by
  obtain ⟨a, c, rfl⟩ := h.shape
  exact ⟨a, c, by rw [hl]⟩
/-- The numbers whose greatest is the backward error. -/
def blTo (m : MatM) (X Y F R : List Nat) : Nat → List Nat
  | 0 => []
  | i + 1 => blTo m X Y F R i ++ (if nzB (R.getD i 0) = true then [ratF (F.getD i 0) (R.getD i 0)] else if someB m X Y i = true then [4607182418800017408] else [])
theorem blTo_le (m : MatM) (X Y F R : List Nat) : ∀ i, (blTo m X Y F R i).length ≤ i
  | 0 => Nat.le_refl _
  | i + 1 => by
    have := blTo_le m X Y F R i
    unfold blTo
    rw [List.length_append]
    split
    · simp; omega
    · split <;> simp <;> omega
def berF (m : MatM) (X Y : List Nat) : Nat := fgreatest (blTo m X Y (bndL (resL m X Y) (rebL m X Y)) (rebL m X Y) m.rows.toNat)
set_option maxRecDepth 100000 in
set_option maxHeartbeats 1000000 in
/-- resid.Berr that tells an error. -/
theorem berr_no (m : MatM) (D VX VY : Value) (X Y : List Nat) (w : World) (hD : FS w D m.ws) (hX : FS w VX X) (hY : FS w VY Y) (hwf : m.wf) (hne : chkE m X.length Y.length ≠ 0) :
   Calls Try.prog 105 #[.agg #[D, .int .i64 m.off, .int .i64 m.rows, .int .i64 m.cols, .int .i64 m.ld], VX, VY] w (fun e w' => e = .returned (.tuple #[.float .f64 0, .int .i64 (chkE m X.length Y.length)]) ∧ ∃ o n, w' = ext w o n) := by
  have hr : ∀ w', FS w' D m.ws → FS w' VX X → FS w' VY Y → Calls Try.prog 94 #[.agg #[D, .int .i64 m.off, .int .i64 m.rows, .int .i64 m.cols, .int .i64 m.ld], VX, VY] w' (fun e w2 => e = .returned (.tuple #[.slice none 0 0, .slice none 0 0, .int .i64 (chkE m X.length Y.length)]) ∧ ∃ o n, w2 = ext w' o n) := fun w' h1 h2 h3 => rest_no m D VX VY X Y w' h1 h2 h3 hwf hne
  obtain ⟨E, hE⟩ : ∃ E, E = chkE m X.length Y.length := ⟨_, rfl⟩
  rw [← hE] at hr hne ⊢
  have d1 : (E != 0) = true := by simpa using hne
  clear hE hne hwf
  go_enter Try.func105, Try.ntmps105
  refine seq_stop ?_
  go_wp2
  refine stop_go (fun W hW => ?_)
  have s1 : w.heap.size < W.heap.size := by rw [hW]; simp only [World.size_alloc]; omega
  have b1 : ∀ i, W.cell? ⟨w.heap.size, i, none⟩ = (#[D, .int .i64 m.off, .int .i64 m.rows, .int .i64 m.cols, .int .i64 m.ld] : Array Value)[i]? := by intro i; rw [hW]; go_simp
  have g0 : Grew w W := by rw [hW]; exact (Grew.refl _).alloc _
  clear hW
  have hDW := hD.grew g0
  have hXW := hX.grew g0
  have hYW := hY.grew g0
  go_wp2_with (first | (go_at_call 94; ((with_reducible refine (hr _ ?_ ?_ ?_).mono ?_); (focus (first | (with_reducible assumption) | (with_reducible refine FS.ext ?_ _ _; with_reducible assumption) | (with_reducible refine IS.ext ?_ _ _; with_reducible assumption) | (refine hDu _ ?_; with_reducible assumption) | (refine hOu _ ?_; with_reducible assumption) | (refine hDa _ ?_; with_reducible assumption) | (refine hDb _ ?_; with_reducible assumption) | (refine hDc _ ?_; with_reducible assumption) | (refine hDd _ ?_; with_reducible assumption) | (refine FW.fs ?_ (by omega) _; with_reducible assumption) | (refine WS.fs ?_; with_reducible assumption) | (refine FW.fs ?_ (by omega) _; assumption) | omega | assumption)); (focus (first | (with_reducible assumption) | (with_reducible refine FS.ext ?_ _ _; with_reducible assumption) | (with_reducible refine IS.ext ?_ _ _; with_reducible assumption) | (refine hDu _ ?_; with_reducible assumption) | (refine hOu _ ?_; with_reducible assumption) | (refine hDa _ ?_; with_reducible assumption) | (refine hDb _ ?_; with_reducible assumption) | (refine hDc _ ?_; with_reducible assumption) | (refine hDd _ ?_; with_reducible assumption) | (refine FW.fs ?_ (by omega) _; with_reducible assumption) | (refine WS.fs ?_; with_reducible assumption) | (refine FW.fs ?_ (by omega) _; assumption) | omega | assumption)); (focus (first | (with_reducible assumption) | (with_reducible refine FS.ext ?_ _ _; with_reducible assumption) | (with_reducible refine IS.ext ?_ _ _; with_reducible assumption) | (refine hDu _ ?_; with_reducible assumption) | (refine hOu _ ?_; with_reducible assumption) | (refine hDa _ ?_; with_reducible assumption) | (refine hDb _ ?_; with_reducible assumption) | (refine hDc _ ?_; with_reducible assumption) | (refine hDd _ ?_; with_reducible assumption) | (refine FW.fs ?_ (by omega) _; with_reducible assumption) | (refine WS.fs ?_; with_reducible assumption) | (refine FW.fs ?_ (by omega) _; assumption) | omega | assumption)); rintro e w1 ⟨rfl, o1, n1, rfl⟩)))
  refine bodyPost_ret (v := .tuple #[.float .f64 0, .int .i64 E]) (by simp [results, Try.results105, go_sem, *]) rfl ?_
  exact ⟨rfl, by (show Grew _ _; repeat (first | (with_reducible exact Grew.refl _) | (with_reducible assumption) | (with_reducible exact Grew.same_o) | (with_reducible exact Grew.app_o) | (with_reducible refine Grew.ext ?_ _ _) | (with_reducible refine Grew.alloc ?_ _) | ((with_reducible refine Grew.setCell ?_ ?_ _); rotate_left; (focus (dsimp only; first | omega | (simp only [size_ext, World.size_alloc, Array.size_append]; omega)))) | (with_reducible refine Grew.drewN ?_ _) | (with_reducible refine Grew.drew ?_)))⟩
set_option maxRecDepth 100000 in
set_option maxHeartbeats 2000000 in
/-- resid.Berr. -/
theorem berr_any (m : MatM) (D VX VY : Value) (X Y : List Nat) (w : World) (hD : FS w D m.ws) (hX : FS w VX X) (hY : FS w VY Y) (hm : m.good = true) (hwf : m.wf) (hl : m.ws.length ≤ 1000000) (hrc : m.rows = m.cols) (hr : m.rows ≤ 64) (hnX : (X.length : Int) = m.rows) (hnY : (Y.length : Int) = m.rows) :
   Calls Try.prog 105 #[.agg #[D, .int .i64 m.off, .int .i64 m.rows, .int .i64 m.cols, .int .i64 m.ld], VX, VY] w (fun e w' => ∃ q, e = .returned (.tuple #[.float .f64 q, .int .i64 0]) ∧ IsF q (berF m X Y) ∧ ∃ o n, w' = ext w o n) := by
  have hn := MatM.good_n hm
  obtain ⟨R, hR⟩ : ∃ R, Hid (R = rebL m X Y) := ⟨_, hid rfl⟩
  obtain ⟨F, hF⟩ : ∃ F, Hid (F = bndL (resL m X Y) R) := ⟨_, hid rfl⟩
  obtain ⟨N, hN⟩ : ∃ N, N = m.rows.toNat := ⟨_, rfl⟩
  have lR : R.length = N := by rw [hR.out, hN]; exact rowsTo_length _ _ _ _ _
  have lS : (resL m X Y).length = N := by rw [hN]; exact rowsTo_length _ _ _ _ _
  have lF : F.length = N := by rw [hF.out, bndL_length, lS]
  have hRest : ∀ w', FS w' D m.ws → FS w' VX X → FS w' VY Y → Calls Try.prog 94 #[.agg #[D, .int .i64 m.off, .int .i64 m.rows, .int .i64 m.cols, .int .i64 m.ld], VX, VY] w' (fun e w2 => ∃ v1 v2, e = .returned (.tuple #[v1, v2, .int .i64 0]) ∧ FS w2 v1 (resL m X Y) ∧ FS w2 v2 R ∧ ∃ o n, w2 = ext w' o n) := fun w' h1 h2 h3 => by
    refine (rest_any m D VX VY X Y w' h1 h2 h3 hm hwf hl hrc hr hnX hnY).mono fun e w2 hh => ?_
    obtain ⟨v1, v2, e1, e2, e3, e4⟩ := hh
    refine ⟨v1, v2, e1, e2.fs (by rw [lS]; omega), ?_, e4⟩
    rw [hR.out]
    exact e3.fs (by rw [← hR.out, lR]; omega)
  have hBnd : ∀ v1 v2 w', FS w' v1 (resL m X Y) → FS w' v2 R → Calls Try.prog 92 #[v1, v2] w' (fun e w2 => ∃ v3, e = .returned (.tuple #[v3, .int .i64 0]) ∧ FS w2 v3 F ∧ ∃ o n, w2 = ext w' o n) := fun v1 v2 w' h1 h2 => by
    refine (bounds_any v1 v2 _ _ w' h1 h2 (by rw [lS]; omega) (by rw [lR, lS])).mono fun e w2 hh => ?_
    obtain ⟨v3, e1, e2, e3⟩ := hh
    refine ⟨v3, e1, ?_, e3⟩
    rw [hF.out]
    exact e2.fs (by rw [← hF.out, lF]; omega)
  have hNo : ∀ (i : Nat) w', i < N → FS w' D m.ws → FS w' VX X → FS w' VY Y → Calls Try.prog 182 #[.agg #[D, .int .i64 m.off, .int .i64 m.rows, .int .i64 m.cols, .int .i64 m.ld], VX, VY, .int .i64 i] w' (fun e w2 => e = .returned (.bool (!(someB m X Y i))) ∧ ∃ o n, w2 = ext w' o n) := fun i w' hi h1 h2 h3 =>
    nothing_any m D VX VY X Y i w' h1 h2 h3 hm hwf hl (by omega) (by omega) (by omega) (by omega)
  have hq : berF m X Y = fgreatest (blTo m X Y F R N) := by unfold berF; rw [← hR.out, ← hF.out, hN]
  have HQ := hid hq
  have hN64 : N ≤ 64 := by omega
  have H1 := hid isF_one
  clear hm hwf hrc hr hnX hnY hn hN hq lS
  go_enter Try.func105, Try.ntmps105
  refine seq_stop ?_
  go_wp2
  refine stop_go (fun W hW => ?_)
  have s1 : w.heap.size < W.heap.size := by rw [hW]; simp only [World.size_alloc]; omega
  have b1 : ∀ i, W.cell? ⟨w.heap.size, i, none⟩ = (#[D, .int .i64 m.off, .int .i64 m.rows, .int .i64 m.cols, .int .i64 m.ld] : Array Value)[i]? := by intro i; rw [hW]; go_simp
  have g0 : Grew w W := by rw [hW]; exact (Grew.refl _).alloc _
  clear hW
  have hDW := hD.grew g0
  have hXW := hX.grew g0
  have hYW := hY.grew g0
  go_wp2_with (first | (go_at_call 94; ((with_reducible refine (hRest _ ?_ ?_ ?_).mono ?_); (focus (first | (with_reducible assumption) | (with_reducible refine FS.ext ?_ _ _; with_reducible assumption) | (with_reducible refine IS.ext ?_ _ _; with_reducible assumption) | (refine hDu _ ?_; with_reducible assumption) | (refine hOu _ ?_; with_reducible assumption) | (refine hDa _ ?_; with_reducible assumption) | (refine hDb _ ?_; with_reducible assumption) | (refine hDc _ ?_; with_reducible assumption) | (refine hDd _ ?_; with_reducible assumption) | (refine FW.fs ?_ (by omega) _; with_reducible assumption) | (refine WS.fs ?_; with_reducible assumption) | (refine FW.fs ?_ (by omega) _; assumption) | omega | assumption)); (focus (first | (with_reducible assumption) | (with_reducible refine FS.ext ?_ _ _; with_reducible assumption) | (with_reducible refine IS.ext ?_ _ _; with_reducible assumption) | (refine hDu _ ?_; with_reducible assumption) | (refine hOu _ ?_; with_reducible assumption) | (refine hDa _ ?_; with_reducible assumption) | (refine hDb _ ?_; with_reducible assumption) | (refine hDc _ ?_; with_reducible assumption) | (refine hDd _ ?_; with_reducible assumption) | (refine FW.fs ?_ (by omega) _; with_reducible assumption) | (refine WS.fs ?_; with_reducible assumption) | (refine FW.fs ?_ (by omega) _; assumption) | omega | assumption)); (focus (first | (with_reducible assumption) | (with_reducible refine FS.ext ?_ _ _; with_reducible assumption) | (with_reducible refine IS.ext ?_ _ _; with_reducible assumption) | (refine hDu _ ?_; with_reducible assumption) | (refine hOu _ ?_; with_reducible assumption) | (refine hDa _ ?_; with_reducible assumption) | (refine hDb _ ?_; with_reducible assumption) | (refine hDc _ ?_; with_reducible assumption) | (refine hDd _ ?_; with_reducible assumption) | (refine FW.fs ?_ (by omega) _; with_reducible assumption) | (refine WS.fs ?_; with_reducible assumption) | (refine FW.fs ?_ (by omega) _; assumption) | omega | assumption)); rintro e w1 ⟨v1, v2, rfl, hv1, hv2, o1, n1, rfl⟩; obtain ⟨a2, c2, rfl⟩ := shapeN hv2 lR)) | (go_at_call 92; ((with_reducible refine (hBnd v1 _ _ hv1 hv2).mono ?_); rintro e w1 ⟨v3, rfl, hv3, o2, n2, rfl⟩; obtain ⟨a3, c3, rfl⟩ := shapeN hv3 lF)))
  refine name_any (fun V hV => ?_)
  simp only [ext_ext] at hv3
  have gV : Grew W V := by rw [← hV]; (show Grew _ _; repeat (first | (with_reducible exact Grew.refl _) | (with_reducible assumption) | (with_reducible exact Grew.same_o) | (with_reducible exact Grew.app_o) | (with_reducible refine Grew.ext ?_ _ _) | (with_reducible refine Grew.alloc ?_ _) | ((with_reducible refine Grew.setCell ?_ ?_ _); rotate_left; (focus (dsimp only; first | omega | (simp only [size_ext, World.size_alloc, Array.size_append]; omega)))) | (with_reducible refine Grew.drewN ?_ _) | (with_reducible refine Grew.drew ?_)))
  rw [hV] at hv3
  have hv2' : FS V _ R := hv2.grew (by rw [← hV]; (show Grew _ _; (try simp only [← Array.append_assoc]); repeat (first | (with_reducible exact Grew.same_o) | (with_reducible exact Grew.refl _) | (with_reducible assumption) | (with_reducible refine Grew.alloc ?_ _) | (with_reducible refine Grew.app_r ?_) | ((with_reducible refine Grew.setCell ?_ ?_ _); rotate_left; (focus (dsimp only; first | omega | (simp only [size_ext, World.size_alloc, Array.size_append]; omega)))) | (with_reducible refine Grew.ext ?_ _ _) | (with_reducible refine Grew.drewN ?_ _) | (with_reducible refine Grew.drew ?_))))
  have c3 : ∀ i, V.cell? ⟨w.heap.size, i, none⟩ = (#[D, .int .i64 m.off, .int .i64 m.rows, .int .i64 m.cols, .int .i64 m.ld] : Array Value)[i]? := fun i => (gV.cell s1).trans (b1 i)
  have z3 : w.heap.size < V.heap.size := Nat.lt_of_lt_of_le s1 gV.below.size
  have gw : Grew w V := Grew.trans g0 gV
  have hNo2 : ∀ (i : Nat) w', i < N → Grew V w' → Calls Try.prog 182 #[.agg #[D, .int .i64 m.off, .int .i64 m.rows, .int .i64 m.cols, .int .i64 m.ld], VX, VY, .int .i64 i] w' (fun e w2 => e = .returned (.bool (!(someB m X Y i))) ∧ ∃ o n, w2 = ext w' o n) := fun i w' hi g => hNo i w' hi ((hDW.grew gV).grew g) ((hXW.grew gV).grew g) ((hYW.grew gV).grew g)
  have HLR := hid lR
  have HLF := hid lF
  clear hV hv1 hv2 hRest hBnd hNo gV b1 s1 hDW hXW hYW lR lF
  go_loopw [13, 34] (fun v c wx => ∃ (i : Nat) (o : Array Obj) (k : Nat), i ≤ N ∧ c = .int .i64 i ∧ wx = ext V o k ∧ OwnF 22 wx V.heap.size v (blTo m X Y F R i)) (fun _ c _ => N - (intOf c).toNat)
  case atStart => exact ⟨0, _, _, Nat.zero_le _, rfl, ext_zero.symm, OwnF.nil _ _ _⟩
  case round =>
    obtain ⟨i, o3, n3, hi, rfl, hwr, hown⟩ := hrel
    have gx : Grew V wr := ⟨_, _, hwr⟩
    clear hwr
    have hll := blTo_le m X Y F R i
    have c3' : ∀ i, wr.cell? ⟨w.heap.size, i, none⟩ = (#[D, .int .i64 m.off, .int .i64 m.rows, .int .i64 m.cols, .int .i64 m.ld] : Array Value)[i]? := fun i => (gx.cell z3).trans (c3 i)
    have z3' : w.heap.size < wr.heap.size := Nat.lt_of_lt_of_le z3 gx.below.size
    by_cases hlt : i < N
    · obtain ⟨blk, so, ex, hblkV, hcl⟩ := hv3.at.2 (by rw [HLF.out]; omega)
      subst ex
      obtain ⟨bf, hbfV, hff⟩ := hcl i (by rw [HLF.out]; exact hlt)
      obtain ⟨blk2, so2, ex, hblk2V, hcl2⟩ := hv2'.at.2 (by rw [HLR.out]; omega)
      subst ex
      obtain ⟨br, hbrV, hfr⟩ := hcl2 i (by rw [HLR.out]; exact hlt)
      have hbf := (gx.cell hblkV).trans hbfV
      have hbr := (gx.cell hblk2V).trans hbrV
      have hblk := Nat.lt_of_lt_of_le hblkV gx.below.size
      have hblk2 := Nat.lt_of_lt_of_le hblk2V gx.below.size
      have hsucc : blTo m X Y F R (i + 1) = blTo m X Y F R i ++ (if nzB (R.getD i 0) = true then [ratF (F.getD i 0) (R.getD i 0)] else if someB m X Y i = true then [4607182418800017408] else []) := rfl
      obtain ⟨L, hL⟩ : ∃ L, L = blTo m X Y F R i := ⟨_, rfl⟩
      rw [← hL] at hown hll hsucc
      have HL := hid hL
      have hno := hNo2 i
      clear hcl hcl2 hL
      cases hnz : nzB (R.getD i 0)
      · rw [hnz] at hsucc
        have e1 := nz_ne hfr hnz
        have e2 := nz_eq hfr hnz
        simp only [Bool.not_false] at e2
        cases hsm : someB m X Y i
        · rw [hsm] at hsucc hno
          have HS := hid hsucc
          clear hsucc hnz hsm
          go_wp2_with (first | (go_at_call 182; ((with_reducible refine (hno _ hlt (Grew.trans gx (by (show Grew _ _; repeat (first | (with_reducible exact Grew.refl _) | (with_reducible assumption) | (with_reducible exact Grew.same_o) | (with_reducible exact Grew.app_o) | (with_reducible refine Grew.ext ?_ _ _) | (with_reducible refine Grew.alloc ?_ _) | ((with_reducible refine Grew.setCell ?_ ?_ _); rotate_left; (focus (dsimp only; first | omega | (simp only [size_ext, World.size_alloc, Array.size_append]; omega)))) | (with_reducible refine Grew.drewN ?_ _) | (with_reducible refine Grew.drew ?_)))))).mono ?_); rintro e w1 ⟨rfl, o5, n5, rfl⟩)))
          go_roundw
          case rel =>
            obtain ⟨oX, nX, hX⟩ := Grew.trans gx (⟨_, _, rfl⟩ : Grew wr (ext wr o5 n5))
            exact ⟨i + 1, oX, nX, hlt, by go_num, hX, by rw [HS.out]; simpa using hown.ext o5 n5⟩
          case measure => simp [intOf]; omega
        · rw [hsm] at hsucc hno
          have HS := hid hsucc
          clear hsucc hnz hsm
          go_wp2_with (first | (go_at_call 182; ((with_reducible refine (hno _ hlt (Grew.trans gx (by (show Grew _ _; repeat (first | (with_reducible exact Grew.refl _) | (with_reducible assumption) | (with_reducible exact Grew.same_o) | (with_reducible exact Grew.app_o) | (with_reducible refine Grew.ext ?_ _ _) | (with_reducible refine Grew.alloc ?_ _) | ((with_reducible refine Grew.setCell ?_ ?_ _); rotate_left; (focus (dsimp only; first | omega | (simp only [size_ext, World.size_alloc, Array.size_append]; omega)))) | (with_reducible refine Grew.drewN ?_ _) | (with_reducible refine Grew.drew ?_)))))).mono ?_); rintro e w1 ⟨rfl, o5, n5, rfl⟩)) | (at_builtin; refine append1_f (W := V) (v := u13) (xs := L) (y := 4607182418800017408) finfo ?_ ?_ ?_ ((by omega)) _ _ rfl rfl rfl ?_ rfl ?_; (focus (refine Grew.trans gx ?_; (show Grew _ _; repeat (first | (with_reducible exact Grew.refl _) | (with_reducible assumption) | (with_reducible exact Grew.same_o) | (with_reducible exact Grew.app_o) | (with_reducible refine Grew.ext ?_ _ _) | (with_reducible refine Grew.alloc ?_ _) | ((with_reducible refine Grew.setCell ?_ ?_ _); rotate_left; (focus (dsimp only; first | omega | (simp only [size_ext, World.size_alloc, Array.size_append]; omega)))) | (with_reducible refine Grew.drewN ?_ _) | (with_reducible refine Grew.drew ?_))))); (focus (refine OwnF.grew (w := wr) ?_ ?_; (focus (with_reducible assumption)); (focus (show Grew _ _; repeat (first | (with_reducible exact Grew.refl _) | (with_reducible assumption) | (with_reducible exact Grew.same_o) | (with_reducible exact Grew.app_o) | (with_reducible refine Grew.ext ?_ _ _) | (with_reducible refine Grew.alloc ?_ _) | ((with_reducible refine Grew.setCell ?_ ?_ _); rotate_left; (focus (dsimp only; first | omega | (simp only [size_ext, World.size_alloc, Array.size_append]; omega)))) | (with_reducible refine Grew.drewN ?_ _) | (with_reducible refine Grew.drew ?_)))))); (focus (exact H1.out)); (focus (first | rfl | (simp only [size_ext, World.size_alloc, Array.size_append]; done) | (simp only [size_ext, World.size_alloc, Array.size_append]; omega))); intro v oo nn ho hn))
          go_roundw
          case rel => exact ⟨i + 1, oo, nn, hlt, by go_num, rfl, by rw [HS.out]; simpa using ho⟩
          case measure => simp [intOf]; omega
      · rw [hnz] at hsucc
        have e1 := nz_ne hfr hnz
        have e2 := nz_eq hfr hnz
        simp only [Bool.not_true] at e2
        have HS := hid hsucc
        clear hsucc hnz
        go_wp2
        refine wp_region_R (Grew V) [] [(0,0), (0,1), (0,2), (0,3), (0,4), (0,5), (0,6), (0,7), (0,8), (1,9), (1,10), (1,11), (0,12)] (by kernel_rfl) (by kernel_rfl) (fun _ _ _ _ h _ => h) (by first | exact ⟨_, _, ext_drew⟩ | exact ⟨_, _, drew_ext0⟩ | (show Grew _ _; repeat (first | (with_reducible exact Grew.refl _) | (with_reducible assumption) | (with_reducible exact Grew.same_o) | (with_reducible exact Grew.app_o) | (with_reducible refine Grew.ext ?_ _ _) | (with_reducible refine Grew.alloc ?_ _) | ((with_reducible refine Grew.setCell ?_ ?_ _); rotate_left; (focus (dsimp only; first | omega | (simp only [size_ext, World.size_alloc, Array.size_append]; omega)))) | (with_reducible refine Grew.drewN ?_ _) | (with_reducible refine Grew.drew ?_)))) ?_
        go_wp2_with (first | ((with_reducible refine wpR_id ?_); refine wpR_do rfl rfl (fun K hK => ?_); (with_reducible refine wp_app ?_); refine appendN_K (W := V) (v := u13) (xs := L) (ws := [ratF (F.getD i 0) (R.getD i 0)]) finfo ?_ ?_ ?_ ((by simp; omega)) _ _ rfl rfl rfl rfl ?_; (focus (show Grew _ _; repeat (first | (with_reducible exact Grew.refl _) | (with_reducible assumption) | (with_reducible exact Grew.same_o) | (with_reducible exact Grew.app_o) | (with_reducible refine Grew.ext ?_ _ _) | (with_reducible refine Grew.alloc ?_ _) | ((with_reducible refine Grew.setCell ?_ ?_ _); rotate_left; (focus (dsimp only; first | omega | (simp only [size_ext, World.size_alloc, Array.size_append]; omega)))) | (with_reducible refine Grew.drewN ?_ _) | (with_reducible refine Grew.drew ?_)))); (focus (refine OwnF.grew (w := wr) ?_ ?_; (focus (with_reducible assumption)); (focus (show Grew _ _; repeat (first | (with_reducible exact Grew.refl _) | (with_reducible assumption) | (with_reducible exact Grew.same_o) | (with_reducible exact Grew.app_o) | (with_reducible refine Grew.ext ?_ _ _) | (with_reducible refine Grew.alloc ?_ _) | ((with_reducible refine Grew.setCell ?_ ?_ _); rotate_left; (focus (dsimp only; first | omega | (simp only [size_ext, World.size_alloc, Array.size_append]; omega)))) | (with_reducible refine Grew.drewN ?_ _) | (with_reducible refine Grew.drew ?_)))))); (focus (refine FS_one (y := ratF (F.getD i 0) (R.getD i 0)) ?_ _ ?_; (focus (exact hr)); (focus (first | rfl | (simp only [size_ext, World.size_alloc, Array.size_append]; done) | (simp only [size_ext, World.size_alloc, Array.size_append]; omega))))); intro v oo nn ho hn) | ((with_reducible refine wpR_id ?_); first | (refine wpR_take (v := ?_) rfl rfl ?_ ?_; rotate_left; (focus (rintro w' ⟨o', n', rfl⟩; go_simp; try with_reducible rfl)); simp only [Act.put, List.setIfInBounds_toArray, List.set_cons_zero, List.set_cons_succ]) | (refine wpR_pure (v := ?_) rfl rfl ?_ ?_; rotate_left; (focus (intro w'; go_simp; try with_reducible rfl)); simp only [Act.put, List.setIfInBounds_toArray, List.set_cons_zero, List.set_cons_succ]) | (refine wpR_takeG (v := ?_) rfl rfl rfl rfl rfl ?_ ?_; rotate_left; (focus (rintro w' ⟨o', n', rfl⟩; go_simp; try with_reducible rfl)); simp only [Act.put, List.setIfInBounds_toArray, List.set_cons_zero, List.set_cons_succ]) | (refine wpR_skip rfl rfl rfl rfl rfl rfl ?_; simp only [Act.put, List.setIfInBounds_toArray, List.set_cons_zero, List.set_cons_succ]) | (refine wpR_skipU rfl rfl rfl rfl rfl ?_; simp only [Act.put, List.setIfInBounds_toArray, List.set_cons_zero, List.set_cons_succ]) | (refine wpR_do rfl rfl (fun K hK => ?_)) | (refine wpR_doG rfl rfl rfl rfl rfl (fun K hK => ?_)) | (refine wpR_last rfl rfl (fun K hK => ?_)) | (refine wpR_nil ?_)) | ((with_reducible refine wpR_go ?_ ?_); (focus (show Grew _ _; repeat (first | (with_reducible exact Grew.refl _) | (with_reducible assumption) | (with_reducible exact Grew.same_o) | (with_reducible exact Grew.app_o) | (with_reducible refine Grew.ext ?_ _ _) | (with_reducible refine Grew.alloc ?_ _) | ((with_reducible refine Grew.setCell ?_ ?_ _); rotate_left; (focus (dsimp only; first | omega | (simp only [size_ext, World.size_alloc, Array.size_append]; omega)))) | (with_reducible refine Grew.drewN ?_ _) | (with_reducible refine Grew.drew ?_))))) | ((with_reducible refine upon_id ?_); refine upon_fop rfl (by assumption) (by assumption) ?_; intro rr nn hr) | (go_at_call 181; ((with_reducible refine (ratio_any bf br _ _ _ hff hfr).mono ?_); rintro e w1 ⟨rr, rfl, hr, o6, n6, rfl⟩)))
        go_roundw
        case rel => exact ⟨i + 1, oo, nn, hlt, by go_num, rfl, by rw [HS.out]; simpa using ho⟩
        case measure => simp [intOf]; omega
    · have e : i = N := by omega
      subst e
      go_wp2_with (first | (go_at_call 39; ((with_reducible refine (greatest_any _ _ _ (hown.fs (by omega))).mono ?_); rintro e w1 ⟨r, rfl, hr, o6, n6, rfl⟩)))
      refine bodyPost_ret (v := .tuple #[.float .f64 r, .int .i64 0]) (by simp [results, Try.results105, go_sem, *]) rfl ?_
      exact ⟨r, rfl, by rw [HQ.out]; exact hr, by first | exact Grew.trans gw gx | exact Grew.trans (Grew.trans gw gx) ⟨_, _, rfl⟩⟩
end Go.Proofs.Ytcmggfpcbijcjaa
end
section
/-
  Contracts: straightedgeref22.Berr.
-/
set_option linter.unusedSimpArgs false
set_option linter.unusedVariables false
open Go Go.RowKit Sedge
namespace Go.Proofs.Ytcmggfpcbijcjaa
set_option maxRecDepth 100000 in
set_option maxHeartbeats 4000000 in
theorem rberr_any (m : MatM) (A VX VY : Value) (X Y : List Nat) (n : Nat) (w : World) (hA : FS w A m.tab) (hX : FS w VX X) (hY : FS w VY Y) (hn : m.rows.toNat = n) (hc : m.cols.toNat = n) (hn64 : n ≤ 64) (hXl : X.length = n) (hYl : Y.length = n) :
   Calls Try.prog 107 #[.agg #[.int .i64 n, .int .i64 n, A], VX, VY] w (fun e w' => ∃ q, e = .returned (.float .f64 q) ∧ IsF q (berF m X Y) ∧ ∃ o n, w' = ext w o n) := by
  obtain ⟨aA, cA, rfl⟩ := hA.shape
  obtain ⟨aX, cX, rfl⟩ := hX.shape
  obtain ⟨aY, cY, rfl⟩ := hY.shape
  obtain ⟨R, hR⟩ : ∃ R, Hid (R = rebL m X Y) := ⟨_, hid rfl⟩
  obtain ⟨F, hF⟩ : ∃ F, Hid (F = bndL (resL m X Y) R) := ⟨_, hid rfl⟩
  have lR : R.length = n := by rw [hR.out, ← hn]; exact rowsTo_length _ _ _ _ _
  have lS : (resL m X Y).length = n := by rw [← hn]; exact rowsTo_length _ _ _ _ _
  have lF : F.length = n := by rw [hF.out, bndL_length, lS]
  have hRest : ∀ w', Grew w w' → Calls Try.prog 106 #[.agg #[.int .i64 n, .int .i64 n, .slice aA m.tab.length cA], .slice aX X.length cX, .slice aY Y.length cY] w' (fun e w2 => ∃ v1 a2 c2, e = .returned (.tuple #[v1, .slice a2 n c2]) ∧ FS w2 v1 (resL m X Y) ∧ FS w2 (.slice a2 n c2) R ∧ ∃ o n, w2 = ext w' o n) := fun w' g => by
    refine (rrest_any m _ _ _ X Y n w' (hA.grew g) (hX.grew g) (hY.grew g) hn hc hn64 hXl hYl).mono fun e w2 hh => ?_
    obtain ⟨v1, v2, e1, e2, e3, e4⟩ := hh
    rw [← hR.out] at e3
    obtain ⟨a2, c2, rfl⟩ := shapeN e3 lR
    exact ⟨v1, a2, c2, e1, e2, e3, e4⟩
  have hBnd : ∀ v1 v2 w', FS w' v1 (resL m X Y) → FS w' v2 R → Calls Try.prog 93 #[v1, v2] w' (fun e w2 => ∃ a3 c3, e = .returned (.slice a3 n c3) ∧ FS w2 (.slice a3 n c3) F ∧ ∃ o n, w2 = ext w' o n) := fun v1 v2 w' h1 h2 => by
    refine (rbounds_any v1 v2 _ _ w' h1 h2 (by rw [lS]; omega) (by rw [lR, lS])).mono fun e w2 hh => ?_
    obtain ⟨v3, e1, e2, e3⟩ := hh
    rw [← hF.out] at e2
    have e4 := e2.fs (by omega)
    obtain ⟨a3, c3, rfl⟩ := shapeN e4 lF
    exact ⟨a3, c3, e1, e4, e3⟩
  have hml : m.tab.length = n * n := by rw [MatM.tab_length, hn, hc]
  have hAt : ∀ (i j : Nat) w', i < n → j < n → Grew w w' → Calls Try.prog 72 #[.agg #[.int .i64 n, .int .i64 n, .slice aA m.tab.length cA], .int .i64 i, .int .i64 j] w' (fun e w2 => ∃ b, e = .returned (.float .f64 b) ∧ IsF b (m.num i j) ∧ ∃ o n, w2 = ext w' o n) := fun i j w' hi hj g => by
    have h := rat_any n n i j _ m.tab w' (hA.grew g) (by omega) (by omega) (by omega) (by omega) (by
      rw [hml]
      have : (i + 1) * n ≤ n * n := Nat.mul_le_mul_right n hi
      rw [Nat.add_mul] at this
      omega)
    have h3 : m.tab.getD (i * n + j) 0 = m.num i j := by
      have := m.tab_hold.get i j (by omega) (by omega)
      rw [hc] at this
      exact this
    rw [h3] at h
    exact h
  have hXc : ∀ j, j < n → ∃ blk o b, aX = some ⟨blk, o, none⟩ ∧ blk < w.heap.size ∧ w.cell? ⟨blk, o + j, none⟩ = some (.float .f64 b) ∧ IsF b (X.getD j 0) := fun j hj => by
    obtain ⟨blk, o, e, hlt, hc⟩ := hX.at.2 (by omega)
    obtain ⟨b, h1, h2⟩ := hc j (by omega)
    exact ⟨blk, o, b, e, hlt, h1, h2⟩
  have hYc : ∀ j, j < n → ∃ blk o b, aY = some ⟨blk, o, none⟩ ∧ blk < w.heap.size ∧ w.cell? ⟨blk, o + j, none⟩ = some (.float .f64 b) ∧ IsF b (Y.getD j 0) := fun j hj => by
    obtain ⟨blk, o, e, hlt, hc⟩ := hY.at.2 (by omega)
    obtain ⟨b, h1, h2⟩ := hc j (by omega)
    exact ⟨blk, o, b, e, hlt, h1, h2⟩
  have hq : berF m X Y = fgreatest (blTo m X Y F R n) := by unfold berF; rw [← hR.out, ← hF.out, hn]
  have hsB : ∀ i, someB m X Y i = someTo m X (nzB (Y.getD i 0)) i n := fun i => by unfold someB; rw [hXl]
  obtain ⟨T, hT⟩ : ∃ T, Hid (T = TW) := ⟨_, hid rfl⟩
  have hSc : ∀ w', Calls Try.prog 165 #[.float .f64 4607182418800017408, .int .i64 (-50)] w' (fun e w2 => ∃ r, e = .returned (.float .f64 r) ∧ IsF r T ∧ w' = w2) := fun w' => by
    rw [hT.out]; exact rscale_any 4607182418800017408 4607182418800017408 (-50) w' isF_one
  obtain ⟨lA, hlA⟩ : ∃ lA, lA = m.tab.length := ⟨_, rfl⟩
  rw [← hlA] at hAt hRest ⊢
  rw [hXl, hYl] at hRest ⊢
  have HQ := hid hq
  have HSB := hid hsB
  have H1 := hid isF_one
  have HLR := hid lR
  have HLF := hid lF
  clear hml hA hX hY hn hc hXl hYl hlA lS lR lF hq hsB
  go_enter Try.func107, Try.ntmps107
  refine seq_stop ?_
  go_wp2
  refine stop_go (fun W hW => ?_)
  have s1 : w.heap.size < W.heap.size := by rw [hW]; simp only [World.size_alloc]; omega
  have b1 : ∀ i, W.cell? ⟨w.heap.size, i, none⟩ = (#[.int .i64 n, .int .i64 n, .slice aA lA cA] : Array Value)[i]? := by intro i; rw [hW]; go_simp
  have g0 : Grew w W := by rw [hW]; exact (Grew.refl _).alloc _
  clear hW
  go_wp2_with (first | (go_at_call 106; ((with_reducible refine (hRest _ (Grew.trans g0 (by (show Grew _ _; (try simp only [← Array.append_assoc]); repeat (first | (with_reducible exact Grew.same_o) | (with_reducible exact Grew.refl _) | (with_reducible assumption) | (with_reducible refine Grew.alloc ?_ _) | (with_reducible refine Grew.app_r ?_) | ((with_reducible refine Grew.setCell ?_ ?_ _); rotate_left; (focus (dsimp only; first | omega | (simp only [size_ext, World.size_alloc, Array.size_append]; omega)))) | (with_reducible refine Grew.ext ?_ _ _) | (with_reducible refine Grew.drewN ?_ _) | (with_reducible refine Grew.drew ?_)))))).mono ?_); rintro e w1 ⟨v1, a2, c2, rfl, hv1, hv2, o1, n1, rfl⟩)) | (go_at_call 93; ((with_reducible refine (hBnd _ _ _ hv1 hv2).mono ?_); rintro e w1 ⟨a3, c3, rfl, hv3, o2, n2, rfl⟩)))
  refine name_any (fun V hV => ?_)
  simp only [ext_ext] at hv3
  have gV : Grew W V := by rw [← hV]; (show Grew _ _; (try simp only [← Array.append_assoc]); repeat (first | (with_reducible exact Grew.same_o) | (with_reducible exact Grew.refl _) | (with_reducible assumption) | (with_reducible refine Grew.alloc ?_ _) | (with_reducible refine Grew.app_r ?_) | ((with_reducible refine Grew.setCell ?_ ?_ _); rotate_left; (focus (dsimp only; first | omega | (simp only [size_ext, World.size_alloc, Array.size_append]; omega)))) | (with_reducible refine Grew.ext ?_ _ _) | (with_reducible refine Grew.drewN ?_ _) | (with_reducible refine Grew.drew ?_)))
  rw [hV] at hv3
  have hv2' : FS V (.slice a2 n c2) R := hv2.grew (by rw [← hV]; (show Grew _ _; (try simp only [← Array.append_assoc]); repeat (first | (with_reducible exact Grew.same_o) | (with_reducible exact Grew.refl _) | (with_reducible assumption) | (with_reducible refine Grew.alloc ?_ _) | (with_reducible refine Grew.app_r ?_) | ((with_reducible refine Grew.setCell ?_ ?_ _); rotate_left; (focus (dsimp only; first | omega | (simp only [size_ext, World.size_alloc, Array.size_append]; omega)))) | (with_reducible refine Grew.ext ?_ _ _) | (with_reducible refine Grew.drewN ?_ _) | (with_reducible refine Grew.drew ?_))))
  have t3 : ∀ i, V.cell? ⟨w.heap.size, i, none⟩ = (#[.int .i64 n, .int .i64 n, .slice aA lA cA] : Array Value)[i]? := fun i => (gV.cell s1).trans (b1 i)
  have z3 : w.heap.size < V.heap.size := Nat.lt_of_lt_of_le s1 gV.below.size
  have gw : Grew w V := Grew.trans g0 gV
  clear hV hv1 hv2 hRest hBnd gV b1 s1
  go_loopw [10, 11] (fun v c wx => ∃ (i : Nat) (o : Array Obj) (k : Nat), i ≤ n ∧ c = .int .i64 i ∧ wx = ext V o k ∧ OwnF 22 wx V.heap.size v (blTo m X Y F R i)) (fun _ c _ => n - (intOf c).toNat)
  case atStart => exact ⟨0, _, _, Nat.zero_le _, rfl, ext_zero.symm, OwnF.nil _ _ _⟩
  case round =>
    obtain ⟨i, o3, n3, hi, rfl, hwr, hown⟩ := hrel
    have gx : Grew V wr := ⟨_, _, hwr⟩
    clear hwr
    have hll := blTo_le m X Y F R i
    have t3' : ∀ i, wr.cell? ⟨w.heap.size, i, none⟩ = (#[.int .i64 n, .int .i64 n, .slice aA lA cA] : Array Value)[i]? := fun i => (gx.cell z3).trans (t3 i)
    have z3' : w.heap.size < wr.heap.size := Nat.lt_of_lt_of_le z3 gx.below.size
    have gxw : Grew w wr := Grew.trans gw gx
    by_cases hlt : i < n
    · obtain ⟨blk, so, ex, hblkV, hcl⟩ := hv3.at.2 (by rw [HLF.out]; omega)
      subst ex
      obtain ⟨bf, hbfV, hff⟩ := hcl i (by rw [HLF.out]; exact hlt)
      obtain ⟨blk2, so2, ex, hblk2V, hcl2⟩ := hv2'.at.2 (by rw [HLR.out]; omega)
      subst ex
      obtain ⟨br, hbrV, hfr⟩ := hcl2 i (by rw [HLR.out]; exact hlt)
      have hbf := (gx.cell hblkV).trans hbfV
      have hbr := (gx.cell hblk2V).trans hbrV
      have hblk := Nat.lt_of_lt_of_le hblkV gx.below.size
      have hblk2 := Nat.lt_of_lt_of_le hblk2V gx.below.size
      have hsucc : blTo m X Y F R (i + 1) = blTo m X Y F R i ++ (if nzB (R.getD i 0) = true then [ratF (F.getD i 0) (R.getD i 0)] else if someB m X Y i = true then [4607182418800017408] else []) := rfl
      obtain ⟨L, hL⟩ : ∃ L, L = blTo m X Y F R i := ⟨_, rfl⟩
      rw [← hL] at hown hll hsucc
      have HL := hid hL
      clear hcl hcl2 hL
      cases hnz : nzB (R.getD i 0)
      · rw [hnz] at hsucc
        have e1 := nz_ne hfr hnz
        obtain ⟨blkY, oY, bY, rfl, hblkY, hcY, hfY⟩ := hYc i hlt
        have hbY : wr.cell? ⟨blkY, oY + i, none⟩ = some (.float .f64 bY) := (gxw.cell hblkY).trans hcY
        have kY : blkY < wr.heap.size := Nat.lt_of_lt_of_le hblkY gxw.below.size
        have hnY : ∀ v, nzB (Y.getD i 0) = v → (FloatKind.f64.format.order bY 0 != some .eq) = v := fun v h => nz_ne hfY h
        have e2 := hnY _ rfl
        obtain ⟨b0, hb0⟩ : ∃ b0, b0 = nzB (Y.getD i 0) := ⟨_, rfl⟩
        rw [← hb0] at e2
        have hsi : someB m X Y i = someTo m X b0 i n := by rw [HSB.out, hb0]
        rw [hsi] at hsucc
        have HS := hid hsucc
        have hati := fun j w' p => hAt i j w' hlt p
        have HO := hid hown
        clear hsucc hnz hcY hnY hb0 hsi hown
        go_wp2
        go_loopw [13, 14] (fun a c wx => ∃ (j : Nat) (o : Array Obj) (k : Nat), j ≤ n ∧ c = .int .i64 j ∧ a = .bool (someTo m X b0 i j) ∧ wx = ext wr o k) (fun _ c _ => n - (intOf c).toNat)
        case atStart => exact ⟨0, #[], _, Nat.zero_le _, rfl, rfl, ext_zero.symm⟩
        case round =>
          obtain ⟨j, o4, n4, hj, rfl, rfl, rfl⟩ := hrel
          by_cases hjn : j < n
          · obtain ⟨blkX, oX, bX, rfl, hblkX, hcX, hfX⟩ := hXc j hjn
            have hbX : wr.cell? ⟨blkX, oX + j, none⟩ = some (.float .f64 bX) := (gxw.cell hblkX).trans hcX
            have kX : blkX < wr.heap.size := Nat.lt_of_lt_of_le hblkX gxw.below.size
            have hatj := fun w' p => hati j w' hjn p
            have hnext : someTo m X b0 i (j + 1) = (someTo m X b0 i j || (nzB (m.num i j) && nzB (X.getD j 0))) := rfl
            cases hsj : someTo m X b0 i j
            · rw [hsj, Bool.false_or] at hnext
              cases hna : nzB (m.num i j)
              · rw [hna, Bool.false_and] at hnext
                have HN := hid hnext
                clear hnext hsj hcX
                go_wp2_with (first | (go_at_call 72; ((with_reducible refine (hatj _ (Grew.trans gxw (by (show Grew _ _; (try simp only [← Array.append_assoc]); repeat (first | (with_reducible exact Grew.same_o) | (with_reducible exact Grew.refl _) | (with_reducible assumption) | (with_reducible refine Grew.alloc ?_ _) | (with_reducible refine Grew.app_r ?_) | ((with_reducible refine Grew.setCell ?_ ?_ _); rotate_left; (focus (dsimp only; first | omega | (simp only [size_ext, World.size_alloc, Array.size_append]; omega)))) | (with_reducible refine Grew.ext ?_ _ _) | (with_reducible refine Grew.drewN ?_ _) | (with_reducible refine Grew.drew ?_)))))).mono ?_); rintro e w1 ⟨ra, rfl, hra, o5, n5, rfl⟩; (have d1 := nz_ne hra hna); clear hna)))
                go_roundw
                case rel => exact ⟨j + 1, _, _, hjn, by go_num, by rw [HN.out], rfl⟩
                case measure => simp [intOf]; omega
              · cases hnx : nzB (X.getD j 0)
                · rw [hna, hnx] at hnext
                  have d2 := nz_ne hfX hnx
                  have HN := hid hnext
                  clear hnext hsj hcX hnx
                  go_wp2_with (first | (go_at_call 72; ((with_reducible refine (hatj _ (Grew.trans gxw (by (show Grew _ _; (try simp only [← Array.append_assoc]); repeat (first | (with_reducible exact Grew.same_o) | (with_reducible exact Grew.refl _) | (with_reducible assumption) | (with_reducible refine Grew.alloc ?_ _) | (with_reducible refine Grew.app_r ?_) | ((with_reducible refine Grew.setCell ?_ ?_ _); rotate_left; (focus (dsimp only; first | omega | (simp only [size_ext, World.size_alloc, Array.size_append]; omega)))) | (with_reducible refine Grew.ext ?_ _ _) | (with_reducible refine Grew.drewN ?_ _) | (with_reducible refine Grew.drew ?_)))))).mono ?_); rintro e w1 ⟨ra, rfl, hra, o5, n5, rfl⟩; (have d1 := nz_ne hra hna); clear hna)))
                  go_roundw
                  case rel => exact ⟨j + 1, _, _, hjn, by go_num, by rw [HN.out]; rfl, rfl⟩
                  case measure => simp [intOf]; omega
                · rw [hna, hnx] at hnext
                  have d2 := nz_ne hfX hnx
                  have HN := hid hnext
                  clear hnext hsj hcX hnx
                  go_wp2_with (first | (go_at_call 72; ((with_reducible refine (hatj _ (Grew.trans gxw (by (show Grew _ _; (try simp only [← Array.append_assoc]); repeat (first | (with_reducible exact Grew.same_o) | (with_reducible exact Grew.refl _) | (with_reducible assumption) | (with_reducible refine Grew.alloc ?_ _) | (with_reducible refine Grew.app_r ?_) | ((with_reducible refine Grew.setCell ?_ ?_ _); rotate_left; (focus (dsimp only; first | omega | (simp only [size_ext, World.size_alloc, Array.size_append]; omega)))) | (with_reducible refine Grew.ext ?_ _ _) | (with_reducible refine Grew.drewN ?_ _) | (with_reducible refine Grew.drew ?_)))))).mono ?_); rintro e w1 ⟨ra, rfl, hra, o5, n5, rfl⟩; (have d1 := nz_ne hra hna); clear hna)))
                  go_roundw
                  case rel => exact ⟨j + 1, _, _, hjn, by go_num, by rw [HN.out]; rfl, rfl⟩
                  case measure => simp [intOf]; omega
            · rw [hsj, Bool.true_or] at hnext
              have HN := hid hnext
              clear hnext hsj hcX
              go_wp2
              go_roundw
              case rel => exact ⟨j + 1, _, _, hjn, by go_num, by rw [HN.out], rfl⟩
              case measure => simp [intOf]; omega
          · have e : j = n := by omega
            subst e
            have hown := HO.out.grew (⟨o4, n4, rfl⟩ : Grew wr (ext wr o4 n4))
            have gx4 : Grew V (ext wr o4 n4) := Grew.trans gx ⟨_, _, rfl⟩
            cases hsj : someTo m X b0 i j
            · have hS2 : blTo m X Y F R (i + 1) = L := by rw [HS.out, hsj]; simp
              have HS2 := hid hS2
              clear hsj hS2
              go_wp2
              go_roundw
              case rel =>
                obtain ⟨oX, nX, hX⟩ := gx4
                exact ⟨i + 1, oX, nX, hlt, by go_num, hX, by rw [HS2.out]; exact hown⟩
              case measure => simp [intOf]; omega
            · have hS2 : blTo m X Y F R (i + 1) = L ++ [4607182418800017408] := by rw [HS.out, hsj]; simp
              have HS2 := hid hS2
              clear hsj hS2
              go_wp2_with (first | (at_builtin; refine append1_f (W := V) (v := u10) (xs := L) (y := 4607182418800017408) finfo ?_ ?_ ?_ ((by omega)) _ _ rfl rfl rfl ?_ rfl ?_; (focus (refine Grew.trans gx4 ?_; (show Grew _ _; repeat (first | (with_reducible exact Grew.refl _) | (with_reducible assumption) | (with_reducible exact Grew.same_o) | (with_reducible exact Grew.app_o) | (with_reducible refine Grew.ext ?_ _ _) | (with_reducible refine Grew.alloc ?_ _) | ((with_reducible refine Grew.setCell ?_ ?_ _); rotate_left; (focus (dsimp only; first | omega | (simp only [size_ext, World.size_alloc, Array.size_append]; omega)))) | (with_reducible refine Grew.drewN ?_ _) | (with_reducible refine Grew.drew ?_))))); (focus (refine OwnF.grew (w := (ext wr o4 n4)) ?_ ?_; (focus (with_reducible assumption)); (focus (show Grew _ _; repeat (first | (with_reducible exact Grew.refl _) | (with_reducible assumption) | (with_reducible exact Grew.same_o) | (with_reducible exact Grew.app_o) | (with_reducible refine Grew.ext ?_ _ _) | (with_reducible refine Grew.alloc ?_ _) | ((with_reducible refine Grew.setCell ?_ ?_ _); rotate_left; (focus (dsimp only; first | omega | (simp only [size_ext, World.size_alloc, Array.size_append]; omega)))) | (with_reducible refine Grew.drewN ?_ _) | (with_reducible refine Grew.drew ?_)))))); (focus (exact H1.out)); (focus (first | rfl | (simp only [size_ext, World.size_alloc, Array.size_append]; done) | (simp only [size_ext, World.size_alloc, Array.size_append]; omega))); intro v oo nn ho hn))
              go_roundw
              case rel => exact ⟨i + 1, oo, nn, hlt, by go_num, rfl, by rw [HS2.out]; exact ho⟩
              case measure => simp [intOf]; omega
      · rw [hnz] at hsucc
        have e1 := nz_ne hfr hnz
        have HS := hid hsucc
        clear hsucc hnz
        go_wp2
        refine wp_region_R (Grew wr) [] [(0,0), (0,1), (0,2), (0,3), (0,4), (0,5), (0,6), (0,7), (1,8), (0,9)] (by kernel_rfl) (by kernel_rfl) (fun _ _ _ _ h _ => h) (by first | exact ⟨_, _, ext_drew⟩ | exact ⟨_, _, drew_ext0⟩ | (show Grew _ _; repeat (first | (with_reducible exact Grew.refl _) | (with_reducible assumption) | (with_reducible exact Grew.same_o) | (with_reducible exact Grew.app_o) | (with_reducible refine Grew.ext ?_ _ _) | (with_reducible refine Grew.alloc ?_ _) | ((with_reducible refine Grew.setCell ?_ ?_ _); rotate_left; (focus (dsimp only; first | omega | (simp only [size_ext, World.size_alloc, Array.size_append]; omega)))) | (with_reducible refine Grew.drewN ?_ _) | (with_reducible refine Grew.drew ?_)))) ?_
        go_upto_region 10 with (first | ((with_reducible refine wpR_id ?_); first | (refine wpR_take (v := ?_) rfl rfl ?_ ?_; rotate_left; (focus (rintro w' ⟨o', n', rfl⟩; go_simp; try with_reducible rfl)); simp only [Act.put, List.setIfInBounds_toArray, List.set_cons_zero, List.set_cons_succ]) | (refine wpR_pure (v := ?_) rfl rfl ?_ ?_; rotate_left; (focus (intro w'; go_simp; try with_reducible rfl)); simp only [Act.put, List.setIfInBounds_toArray, List.set_cons_zero, List.set_cons_succ]) | (refine wpR_takeG (v := ?_) rfl rfl rfl rfl rfl ?_ ?_; rotate_left; (focus (rintro w' ⟨o', n', rfl⟩; go_simp; try with_reducible rfl)); simp only [Act.put, List.setIfInBounds_toArray, List.set_cons_zero, List.set_cons_succ]) | (refine wpR_skip rfl rfl rfl rfl rfl rfl ?_; simp only [Act.put, List.setIfInBounds_toArray, List.set_cons_zero, List.set_cons_succ]) | (refine wpR_skipU rfl rfl rfl rfl rfl ?_; simp only [Act.put, List.setIfInBounds_toArray, List.set_cons_zero, List.set_cons_succ]) | (refine wpR_do rfl rfl (fun K hK => ?_)) | (refine wpR_doG rfl rfl rfl rfl rfl (fun K hK => ?_)) | (refine wpR_last rfl rfl (fun K hK => ?_)) | (refine wpR_nil ?_)) | ((with_reducible refine wpR_go ?_ ?_); (focus (show Grew _ _; repeat (first | (with_reducible exact Grew.refl _) | (with_reducible assumption) | (with_reducible exact Grew.same_o) | (with_reducible exact Grew.app_o) | (with_reducible refine Grew.ext ?_ _ _) | (with_reducible refine Grew.alloc ?_ _) | ((with_reducible refine Grew.setCell ?_ ?_ _); rotate_left; (focus (dsimp only; first | omega | (simp only [size_ext, World.size_alloc, Array.size_append]; omega)))) | (with_reducible refine Grew.drewN ?_ _) | (with_reducible refine Grew.drew ?_))))) | ((with_reducible refine upon_id ?_); refine upon_fop rfl (by assumption) (by assumption) ?_; intro rr nn hr) | (go_at_call 158; ((with_reducible refine (over_any bf br _ _ _ hff hfr).mono ?_); rintro e w1 ⟨q0, rfl, hq0, o5, n5, rfl⟩)) | (go_at_call 165; ((with_reducible refine (hSc _).mono ?_); rintro e w1 ⟨rt, rfl, hrt, rfl⟩)) | (go_at_call 141; ((with_reducible refine (times_any q0 rt _ _ _ hq0 hrt).mono ?_); rintro e w1 ⟨q1, rfl, hq1, o6, n6, rfl⟩)) | (go_at_call 36; ((with_reducible refine (plus_any q0 q1 _ _ _ hq0 hq1).mono ?_); rintro e w1 ⟨q2, rfl, hq2, o7, n7, rfl⟩)))
        refine name_any (fun U hU => ?_)
        have gU : Grew V U := Grew.trans gx (by rw [← hU]; (show Grew _ _; (try simp only [← Array.append_assoc]); repeat (first | (with_reducible exact Grew.same_o) | (with_reducible exact Grew.refl _) | (with_reducible assumption) | (with_reducible refine Grew.alloc ?_ _) | (with_reducible refine Grew.app_r ?_) | ((with_reducible refine Grew.setCell ?_ ?_ _); rotate_left; (focus (dsimp only; first | omega | (simp only [size_ext, World.size_alloc, Array.size_append]; omega)))) | (with_reducible refine Grew.ext ?_ _ _) | (with_reducible refine Grew.drewN ?_ _) | (with_reducible refine Grew.drew ?_))))
        have hown' : OwnF 22 U V.heap.size _ L := hown.grew (by rw [← hU]; (show Grew _ _; (try simp only [← Array.append_assoc]); repeat (first | (with_reducible exact Grew.same_o) | (with_reducible exact Grew.refl _) | (with_reducible assumption) | (with_reducible refine Grew.alloc ?_ _) | (with_reducible refine Grew.app_r ?_) | ((with_reducible refine Grew.setCell ?_ ?_ _); rotate_left; (focus (dsimp only; first | omega | (simp only [size_ext, World.size_alloc, Array.size_append]; omega)))) | (with_reducible refine Grew.ext ?_ _ _) | (with_reducible refine Grew.drewN ?_ _) | (with_reducible refine Grew.drew ?_))))
        clear hU
        have hq2' : IsF q2 (ratQ (F.getD i 0) (R.getD i 0)) := by unfold ratQ; rw [← hT.out]; exact hq2
        have hQF : ratF (F.getD i 0) (R.getD i 0) = if fgt (ratQ (F.getD i 0) (R.getD i 0)) 4607182418800017408 = true then 4607182418800017408 else ratQ (F.getD i 0) (R.getD i 0) := rfl
        have hge := gt_eq1 hq2'
        obtain ⟨ρ, hρ⟩ : ∃ ρ, ρ = ratF (F.getD i 0) (R.getD i 0) := ⟨_, rfl⟩
        obtain ⟨σ, hσ⟩ : ∃ σ, σ = ratQ (F.getD i 0) (R.getD i 0) := ⟨_, rfl⟩
        rw [← hρ, ← hσ] at hQF
        rw [← hσ] at hge hq2'
        have hS3 : blTo m X Y F R (i + 1) = L ++ [ρ] := by rw [HS.out, hρ]; simp
        have HS3 := hid hS3
        cases hgt : fgt σ 4607182418800017408
        · rw [hgt] at hge hQF
          have hρσ : ρ = σ := by rw [hQF]; rfl
          have hqρ : IsF q2 ρ := by rw [hρσ]; exact hq2'
          have HQR := hid hqρ
          clear hS3 hρ hσ hQF hgt hq2 hq2' hρσ hqρ
          go_wp2_with (first | (at_builtin; refine append1_f (W := V) (v := u10) (xs := L) (y := ρ) finfo ?_ ?_ ?_ ((by omega)) _ _ rfl rfl rfl ?_ rfl ?_; (focus (refine Grew.trans gU ?_; (show Grew _ _; repeat (first | (with_reducible exact Grew.refl _) | (with_reducible assumption) | (with_reducible exact Grew.same_o) | (with_reducible exact Grew.app_o) | (with_reducible refine Grew.ext ?_ _ _) | (with_reducible refine Grew.alloc ?_ _) | ((with_reducible refine Grew.setCell ?_ ?_ _); rotate_left; (focus (dsimp only; first | omega | (simp only [size_ext, World.size_alloc, Array.size_append]; omega)))) | (with_reducible refine Grew.drewN ?_ _) | (with_reducible refine Grew.drew ?_))))); (focus (refine OwnF.grew (w := U) ?_ ?_; (focus (with_reducible assumption)); (focus (show Grew _ _; repeat (first | (with_reducible exact Grew.refl _) | (with_reducible assumption) | (with_reducible exact Grew.same_o) | (with_reducible exact Grew.app_o) | (with_reducible refine Grew.ext ?_ _ _) | (with_reducible refine Grew.alloc ?_ _) | ((with_reducible refine Grew.setCell ?_ ?_ _); rotate_left; (focus (dsimp only; first | omega | (simp only [size_ext, World.size_alloc, Array.size_append]; omega)))) | (with_reducible refine Grew.drewN ?_ _) | (with_reducible refine Grew.drew ?_)))))); (focus (exact HQR.out)); (focus (first | rfl | (simp only [size_ext, World.size_alloc, Array.size_append]; done) | (simp only [size_ext, World.size_alloc, Array.size_append]; omega))); intro v oo nn ho hn))
          go_roundw
          case rel => exact ⟨i + 1, oo, nn, hlt, by go_num, rfl, by rw [HS3.out]; exact ho⟩
          case measure => simp [intOf]; omega
        · rw [hgt] at hge hQF
          have hρ1 : ρ = 4607182418800017408 := by rw [hQF]; rfl
          have HR1 := hid hρ1
          clear hS3 hρ hσ hQF hgt hq2 hq2' hρ1
          go_wp2_with (first | (at_builtin; refine append1_f (W := V) (v := u10) (xs := L) (y := ρ) finfo ?_ ?_ ?_ ((by omega)) _ _ rfl rfl rfl ?_ rfl ?_; (focus (refine Grew.trans gU ?_; (show Grew _ _; repeat (first | (with_reducible exact Grew.refl _) | (with_reducible assumption) | (with_reducible exact Grew.same_o) | (with_reducible exact Grew.app_o) | (with_reducible refine Grew.ext ?_ _ _) | (with_reducible refine Grew.alloc ?_ _) | ((with_reducible refine Grew.setCell ?_ ?_ _); rotate_left; (focus (dsimp only; first | omega | (simp only [size_ext, World.size_alloc, Array.size_append]; omega)))) | (with_reducible refine Grew.drewN ?_ _) | (with_reducible refine Grew.drew ?_))))); (focus (refine OwnF.grew (w := U) ?_ ?_; (focus (with_reducible assumption)); (focus (show Grew _ _; repeat (first | (with_reducible exact Grew.refl _) | (with_reducible assumption) | (with_reducible exact Grew.same_o) | (with_reducible exact Grew.app_o) | (with_reducible refine Grew.ext ?_ _ _) | (with_reducible refine Grew.alloc ?_ _) | ((with_reducible refine Grew.setCell ?_ ?_ _); rotate_left; (focus (dsimp only; first | omega | (simp only [size_ext, World.size_alloc, Array.size_append]; omega)))) | (with_reducible refine Grew.drewN ?_ _) | (with_reducible refine Grew.drew ?_)))))); (focus ((rw [HR1.out]; exact H1.out))); (focus (first | rfl | (simp only [size_ext, World.size_alloc, Array.size_append]; done) | (simp only [size_ext, World.size_alloc, Array.size_append]; omega))); intro v oo nn ho hn))
          go_roundw
          case rel => exact ⟨i + 1, oo, nn, hlt, by go_num, rfl, by rw [HS3.out]; exact ho⟩
          case measure => simp [intOf]; omega
    · have e : i = n := by omega
      subst e
      go_wp2_with (first | (go_at_call 40; ((with_reducible refine (rgreatest_any _ _ _ (hown.fs (by omega))).mono ?_); rintro e w1 ⟨r, rfl, hr, o6, n6, rfl⟩)))
      go_ret
      exact ⟨r, rfl, by rw [HQ.out]; exact hr, by first | exact Grew.trans gw gx | exact Grew.trans (Grew.trans gw gx) ⟨_, _, rfl⟩⟩
end Go.Proofs.Ytcmggfpcbijcjaa
end
section
/-
  Contract: view.Dense with its numbers written out; the example of layer 4.
-/
set_option linter.unusedSimpArgs false
set_option linter.unusedVariables false
open Go Go.RowKit Sedge
namespace Go.Proofs.Ytcmggfpcbijcjaa
/-- The list that Dense makes. -/
def denseTo (r c : Nat) (l : List Nat) (k : Nat) : List Nat := writes (List.replicate (r * c) 0) (fun k => k / c + k % c * r) (fun k => l.getD k 0) k
def denseL (r c : Nat) (l : List Nat) : List Nat := denseTo r c l (min l.length (r * c))
set_option maxRecDepth 100000 in
set_option maxHeartbeats 1000000 in
/-- view.Dense, of sizes within 64. -/
theorem dense_any (r c : Nat) (aL : Option Addr) (ls : List Nat) (w : World) (hL : FS w (.slice aL ls.length ls.length) ls) (hr : r ≤ 64) (hc : c ≤ 64) (hr1 : 1 ≤ r) (hc1 : 1 ≤ c) (hlen : ls.length = r * c) :
   Calls Try.prog 69 #[.int .i64 r, .int .i64 c, .slice aL ls.length ls.length] w (fun e w' => ∃ v, e = .returned (.agg #[v, .int .i64 0, .int .i64 r, .int .i64 c, .int .i64 r]) ∧ WS w' w.heap.size v (denseL r c ls) ∧ ∃ o n, w' = ext w o n) := by
  have hm : r * c ≤ 64 * 64 := Nat.mul_le_mul hr hc
  have h2 : IntKind.i64.wrap ((r : Int) * c) = (r : Int) * c := IntWalk.i64_in _ (by rw [← Int.natCast_mul]; omega)
  have hlL := hL.len
  have d1 : decide ((r : Int) < 0) = false := by simp
  have d2 : decide ((c : Int) < 0) = false := by simp
  have d3 : decide ((64 : Int) < (r : Int)) = false := by simp; omega
  have d4 : decide ((64 : Int) < (c : Int)) = false := by simp; omega
  have d5 : (ls.length : Int) = (r : Int) * c := by rw [hlen, Int.natCast_mul]
  have d6 : decide ((1 : Int) ≤ (r : Int)) = true := by simp; omega
  go_enter Try.func69, Try.ntmps69
  refine seq_stop ?_
  go_wp2
  refine stop_go (fun W hW => ?_)
  have s1 : w.heap.size < W.heap.size := by rw [hW]; simp only [World.size_alloc]; omega
  have b1 : ∀ i, W.cell? ⟨w.heap.size, i, none⟩ = (#[.slice none 0 0, .int .i64 0, .int .i64 0, .int .i64 0, .int .i64 0] : Array Value)[i]? := by intro i; rw [hW]; go_simp
  have f1 : ∀ i, W.frozen? ⟨w.heap.size, i, none⟩ = false := by intro i; rw [hW]; go_simp
  have g0 : Grew w W := by rw [hW]; exact (Grew.refl _).alloc _
  clear hW
  have hLW : FS W (.slice aL ls.length ls.length) ls := hL.grew g0
  go_wp2_with (at_make; refine make_f (L := (r : Int) * (c : Int)) finfo (Grew.refl W) _ _ rfl rfl (r * c) (Int.natCast_mul r c).symm rfl rfl (by omega) ?_; intro oo nn k hk ho; have hF := ho.made)
  refine name_any (fun V hV => ?_)
  have gV : Grew W V := by rw [← hV]; (show Grew _ _; repeat (first | (with_reducible exact Grew.refl _) | (with_reducible assumption) | (with_reducible refine Grew.ext ?_ _ _) | (with_reducible refine Grew.alloc ?_ _) | ((with_reducible refine Grew.setCell ?_ ?_ _); rotate_left; (focus (dsimp only; first | omega | (simp only [size_ext, World.size_alloc, Array.size_append]; omega)))) | (with_reducible refine Grew.drewN ?_ _) | (with_reducible refine Grew.drew ?_)))
  have sV := gV.below.size
  have k1 : w.heap.size < V.heap.size := by omega
  have k3 : W.heap.size + oo.size < V.heap.size := by rw [← hV]; simp only [World.size_alloc, size_ext]; omega
  have c1 : ∀ i, V.cell? ⟨w.heap.size, i, none⟩ = (#[.slice none 0 0, .int .i64 0, .int .i64 0, .int .i64 0, .int .i64 0] : Array Value)[i]? := fun i => (gV.cell s1).trans (b1 i)
  have z1 : ∀ i, V.frozen? ⟨w.heap.size, i, none⟩ = false := fun i => (gV.frozen s1).trans (f1 i)
  have c3 : ∀ i, V.cell? ⟨W.heap.size + oo.size, i, none⟩ = (#[.slice (some ⟨k, 0, none⟩) (r * c) (r * c), .int .i64 0, .int .i64 r, .int .i64 c, .int .i64 r] : Array Value)[i]? := by subst hV; intro i; go_simp
  have hFV : FW V k (List.replicate (r * c) 0) := by rw [← hV]; (repeat (first | (with_reducible assumption) | ((with_reducible refine FW.ext_set ?_ ?_ ?_ _); rotate_left; (focus (simp only [size_setCell', World.size_alloc, size_ext, size_upd]; omega)); (focus (dsimp only; omega))) | ((with_reducible refine FW.setCell_ne ?_ ?_ _); rotate_left; (focus (dsimp only; omega))) | (with_reducible refine FW.ext ?_ _ _) | (with_reducible refine FW.alloc ?_ _)))
  have hLV : FS V (.slice aL ls.length ls.length) ls := hLW.grew gV
  have gl := hFV.lt
  have q1 : w.heap.size ≠ k := by omega
  have q3 : W.heap.size + oo.size ≠ k := by have := hF.lt; simp only [size_ext] at this; omega
  have HL := hid hlen
  clear hV b1 f1 hL ho
  go_loopw [43] (fun s wr => ∃ (i : Nat) (cs : Array Value) (o : Array Obj) (n : Nat), i ≤ r * c ∧ s = .int .i64 i ∧ wr = ext (upd V k cs) o n ∧ CF cs (denseTo r c ls i)) (fun s _ => r * c - (intOf s).toNat)
  case atStart =>
    obtain ⟨cs, h1, h2⟩ := hFV.self
    exact ⟨0, cs, #[], _, Nat.zero_le _, rfl, by rw [h1]; exact ext_zero.symm, h2⟩
  case round =>
    obtain ⟨i, cs, o2, n2, hi, rfl, hwr, hcs⟩ := hrel
    subst hwr
    by_cases hlt : i < r * c
    · have e1 : i / c < r := by rw [Nat.div_lt_iff_lt_mul (by omega)]; exact hlt
      have e2 : i % c < c := Nat.mod_lt _ (by omega)
      have e3 : i % c * r + r ≤ c * r := by have := Nat.mul_le_mul_right r e2; rw [Nat.succ_mul] at this; exact this
      have e4 : c * r = r * c := Nat.mul_comm c r
      obtain ⟨p, hp⟩ : ∃ p : Nat, p = i / c := ⟨_, rfl⟩
      obtain ⟨q, hq⟩ : ∃ q : Nat, q = i % c := ⟨_, rfl⟩
      rw [← hp] at e1
      rw [← hq] at e2 e3
      have hq1 : (i : Int).tdiv c = (p : Int) := by rw [hp]; rfl
      have hq2 : (i : Int).tmod c = (q : Int) := by rw [hq]; rfl
      have hq3 : (i : Int) / c = (p : Int) := by rw [hp]; rfl
      have hq4 : (i : Int) % c = (q : Int) := by rw [hq]; rfl
      have m0 : (q : Int) * r = ((q * r : Nat) : Int) := (Int.natCast_mul q r).symm
      have w1 : IntKind.i64.wrap ((q : Int) * r) = (q : Int) * r := IntWalk.i64_in _ (by omega)
      have w2 : IntKind.i64.wrap ((p : Int) + (q : Int) * r) = (p : Int) + (q : Int) * r := IntWalk.i64_in _ (by omega)
      have n0 : ((p : Int) + (q : Int) * r).toNat = p + q * r := by omega
      have n1 : 0 ≤ (p : Int) + (q : Int) * r := by omega
      have n3 : (p : Int) + (q : Int) * r < ((r * c : Nat) : Int) := by omega
      have n2' : (c : Int) ≠ 0 := by omega
      have n6 : (p : Int) + (q : Int) * r < (r : Int) * c := by rw [← Int.natCast_mul r c]; exact n3
      have n8 : p + q * r < r * c := by omega
      have n5 : ¬ c = 0 := by omega
      have w0 : IntKind.i64.wrap (p : Int) = p := IntWalk.i64_in _ (by omega)
      have w3 : IntKind.i64.wrap (q : Int) = q := IntWalk.i64_in _ (by omega)
      have n4 : ((c : Int) == 0) = false := by simp; omega
      have fz : ∀ i, V.frozen? ⟨k, i, none⟩ = false := hFV.notFrozen
      have hlen2 : (denseTo r c ls i).length = r * c := by simp [denseTo]
      obtain ⟨r0, hr0, _⟩ := (hFV.mk' hcs o2 n2).get (i := p + q * r) (by rw [hlen2]; omega)
      have hr1 := (cell_ext (by simpa using gl)).symm.trans hr0
      obtain ⟨blk, o, rfl, hblk, hc⟩ := hLW.at.2 (by omega)
      obtain ⟨b, hb0, hf⟩ := hc i (by omega)
      have hb := (gV.cell hblk).trans hb0
      have qb : blk ≠ k := by omega
      have kb : blk < V.heap.size := by omega
      have Hp := hid hp
      have Hq := hid hq
      clear hb0 hc hr0 m0 hp hq
      go_wp2
      refine wp_region_R (Over V k) [] [(0,0), (0,1), (0,2), (0,3), (0,4), (0,5), (0,6), (0,7), (0,8), (0,9), (0,10), (0,11), (0,12), (0,13), (1,14)] (by kernel_rfl) (by kernel_rfl) (fun _ _ _ _ h _ => h) ⟨_, _, _, ext_drew⟩ ?_
      go_wp2_with (first | ((with_reducible refine wpR_id ?_); first | (refine wpR_take (v := ?_) rfl rfl ?_ ?_; rotate_left; (focus (rintro w' ⟨cs', o', n', rfl⟩; go_simp; try with_reducible rfl)); simp only [Act.put, List.setIfInBounds_toArray, List.set_cons_zero, List.set_cons_succ]) | (refine wpR_pure (v := ?_) rfl rfl ?_ ?_; rotate_left; (focus (intro w'; go_simp; try with_reducible rfl)); simp only [Act.put, List.setIfInBounds_toArray, List.set_cons_zero, List.set_cons_succ]) | (refine wpR_takeG (v := ?_) rfl rfl rfl rfl rfl ?_ ?_; rotate_left; (focus (rintro w' ⟨cs', o', n', rfl⟩; go_simp; try with_reducible rfl)); simp only [Act.put, List.setIfInBounds_toArray, List.set_cons_zero, List.set_cons_succ]) | (refine wpR_skip rfl rfl rfl rfl rfl rfl ?_; simp only [Act.put, List.setIfInBounds_toArray, List.set_cons_zero, List.set_cons_succ]) | (refine wpR_skipU rfl rfl rfl rfl rfl ?_; simp only [Act.put, List.setIfInBounds_toArray, List.set_cons_zero, List.set_cons_succ]) | (refine wpR_do rfl rfl (fun K hK => ?_)) | (refine wpR_doG rfl rfl rfl rfl rfl (fun K hK => ?_)) | (refine wpR_last rfl rfl (fun K hK => ?_)) | (refine wpR_nil ?_)) | ((with_reducible refine wpR_go ?_ ?_); (focus exact ⟨_, _, _, rfl⟩)) | ((with_reducible refine upon_id ?_); refine upon_fop rfl (by assumption) (by assumption) ?_; intro rr nn hr))
      go_roundw
      case rel =>
        refine ⟨i + 1, _, _, _, by omega, by go_num, rfl, ?_⟩
        have h8 := hcs.set (i := p + q * r) hf
        unfold denseTo at h8 ⊢; unfold writes
        rw [← Hp.out, ← Hq.out]; exact h8
      case measure => simp [intOf]; omega
    · have e : i = r * c := by omega
      subst e
      have hfw : FW (ext (upd V k cs) o2 n2) k (denseL r c ls) := by unfold denseL; rw [HL.out, Nat.min_self]; exact hFV.mk' hcs _ _
      have gu : Grew w (upd V k cs) := (g0.trans gV).upd (by omega) cs
      go_wp2
      refine bodyPost_ret (v := .agg #[.slice (some ⟨k, 0, none⟩) (r * c) (r * c), .int .i64 0, .int .i64 r, .int .i64 c, .int .i64 r]) (by simp [results, Try.results69, go_sem, *]) rfl ?_
      exact ⟨_, rfl, ⟨k, r * c, by simp [denseL, denseTo], by omega, by (repeat (first | (with_reducible assumption) | ((with_reducible refine FW.ext_set ?_ ?_ ?_ _); rotate_left; (focus (simp only [size_setCell', World.size_alloc, size_ext, size_upd]; omega)); (focus (dsimp only; omega))) | ((with_reducible refine FW.setCell_ne ?_ ?_ _); rotate_left; (focus (dsimp only; omega))) | (with_reducible refine FW.ext ?_ _ _) | (with_reducible refine FW.alloc ?_ _))), by simp [denseL, denseTo]; omega⟩, by (show Grew _ _; repeat (first | (with_reducible exact Grew.refl _) | (with_reducible assumption) | (with_reducible refine Grew.ext ?_ _ _) | (with_reducible refine Grew.alloc ?_ _) | ((with_reducible refine Grew.setCell ?_ ?_ _); rotate_left; (focus (dsimp only; first | omega | (simp only [size_ext, World.size_alloc, Array.size_append]; omega)))) | (with_reducible refine Grew.drewN ?_ _) | (with_reducible refine Grew.drew ?_)))⟩
end Go.Proofs.Ytcmggfpcbijcjaa
end
section
/-
  The example of layer 22.
-/
set_option linter.unusedSimpArgs false
set_option linter.unusedVariables false
open Go Go.RowKit Sedge
namespace Go.Proofs.Ytcmggfpcbijcjaa
def E2 : List Nat := [4611686018427387904]
def E1 : List Nat := [4607182418800017408]
def E0 : List Nat := [0]
def E4 : List Nat := [4616189618054758400]
theorem dense_1 (aL : Option Addr) (w : World) (hL : FS w (.slice aL 1 1) E2) :
   Calls Try.prog 69 #[.int .i64 1, .int .i64 1, .slice aL 1 1] w (fun e w' => ∃ v, e = .returned (.agg #[v, .int .i64 0, .int .i64 1, .int .i64 1, .int .i64 1]) ∧ WS w' w.heap.size v E2 ∧ ∃ o n, w' = ext w o n) := by
  have h := dense_any 1 1 aL E2 w hL (by decide) (by decide) (by decide) (by decide) rfl
  have e : denseL 1 1 E2 = E2 := by decide +kernel
  rw [e] at h
  exact h
theorem rest_1 (D VX VY : Value) (w : World) (hD : FS w D E2) (hX : FS w VX E1) (hY : FS w VY E2) :
   Calls Try.prog 94 #[.agg #[D, .int .i64 0, .int .i64 1, .int .i64 1, .int .i64 1], VX, VY] w (fun e w' => ∃ v1 v2, e = .returned (.tuple #[v1, v2, .int .i64 0]) ∧ FS w' v1 E0 ∧ FS w' v2 E4 ∧ ∃ o n, w' = ext w o n) := by
  have h := rest_any ⟨E2, 0, 1, 1, 1⟩ D VX VY E1 E2 w hD hX hY (by decide +kernel) (by simp [MatM.wf, I64]) (by decide) rfl (by decide) rfl rfl
  have e1 : resL ⟨E2, 0, 1, 1, 1⟩ E1 E2 = E0 := by decide +kernel
  have e2 : rebL ⟨E2, 0, 1, 1, 1⟩ E1 E2 = E4 := by decide +kernel
  rw [e1, e2] at h
  refine h.mono fun e w' hh => ?_
  obtain ⟨v1, v2, h1, h2, h3, h4⟩ := hh
  exact ⟨v1, v2, h1, h2.fs (by decide), h3.fs (by decide), h4⟩
set_option maxRecDepth 100000 in
set_option maxHeartbeats 2000000 in
theorem awake22 (w : World) : Calls Try.prog 91 #[] w (fun e w' => e = .returned (.bool true) ∧ ∃ o n, w' = ext w o n) := by
  have h2 : ∀ x ∈ E2, IsF x x := by decide +kernel
  have h1 : ∀ x ∈ E1, IsF x x := by decide +kernel
  have h0 : ∀ x ∈ E0, IsF x x := by decide +kernel
  have h4 : ∀ x ∈ E4, IsF x x := by decide +kernel
  have H2 := hid h2
  have H1 := hid h1
  have H0 := hid h0
  have H4 := hid h4
  have da : decide (E0 = E0) = true := by decide +kernel
  have db : decide (E4 = E4) = true := by decide +kernel
  clear h0 h1 h2 h4
  go_enter Try.func91, Try.ntmps91
  go_wp2_with (first | (go_at_call 69; ((with_reducible refine (dense_1 _ _ ?_).mono ?_); (focus (repeat (first | exact FS.lit E2 (by decide) H2.out 1 _ (by simp only [size_ext, World.size_alloc]) | exact FS.lit E2 (by decide) H2.out 1 _ rfl | refine FS.alloc ?_ _ | refine FS.ext ?_ _ _))); rintro e w1 ⟨v, rfl, ⟨g, cap, rfl, hg, hF, hgl⟩, hw1⟩)) | (go_at_call 94; (with_reducible refine (rest_1 _ _ _ _ ?_ ?_ ?_).mono ?_); (focus (exact ((hF.alloc _).alloc _).fs (by decide) cap)); (focus (repeat (first | exact FS.lit E1 (by decide) H1.out 1 _ (by simp only [size_ext, World.size_alloc]) | exact FS.lit E1 (by decide) H1.out 1 _ rfl | refine FS.alloc ?_ _ | refine FS.ext ?_ _ _))); (focus (repeat (first | exact FS.lit E2 (by decide) H2.out 1 _ (by simp only [size_ext, World.size_alloc]) | exact FS.lit E2 (by decide) H2.out 1 _ rfl | refine FS.alloc ?_ _ | refine FS.ext ?_ _ _))); rintro e w2 ⟨v1, v2, rfl, hv1, hv2, hw2⟩) | (go_at_call 47; ((with_reducible refine (all_any _ _ E0 E0 _ ?_ ?_).mono ?_); (focus (exact hv1.alloc _)); (focus (repeat (first | exact FS.lit E0 (by decide) H0.out 1 _ (by simp only [size_ext, World.size_alloc]) | exact FS.lit E0 (by decide) H0.out 1 _ rfl | refine FS.alloc ?_ _ | refine FS.ext ?_ _ _))); rintro e w3 ⟨rfl, hw3⟩)) | (go_at_call 47; ((with_reducible refine (all_any _ _ E4 E4 _ ?_ ?_).mono ?_); (focus (exact (((hv2.alloc _).grew hw3).alloc _))); (focus (repeat (first | exact FS.lit E4 (by decide) H4.out 1 _ (by simp only [size_ext, World.size_alloc]) | exact FS.lit E4 (by decide) H4.out 1 _ rfl | refine FS.alloc ?_ _ | refine FS.ext ?_ _ _))); rintro e w4 ⟨rfl, hw4⟩)))
  go_ret
  exact ⟨rfl, Grew.trans ((Grew.trans ((Grew.trans (((Grew.trans ((Grew.refl w).alloc _) hw1).alloc _).alloc _) hw2).alloc _) hw3).alloc _) hw4⟩
end Go.Proofs.Ytcmggfpcbijcjaa
end
section
/-
  Places clear of each other; blocks of numbers written out; small facts for the laws.
-/
set_option linter.unusedSimpArgs false
set_option linter.unusedVariables false
open Go Go.RowKit Sedge
namespace Go.Proofs.Ytcmggfpcbijcjaa
theorem meet_no {x : VecM} {m : MatM} (hx : x.right = true) (hm : m.good = true) (h : meetM (rowM x) m true = false) {r i j : Nat} (hr : (r : Int) < x.n) (hi : (i : Int) < m.rows) (hj : (j : Int) < m.cols) : x.place r ≠ m.place i j := by
  intro e
  have f1 : MatM.full (rowM x) = true := by unfold MatM.full; rw [rowM_good hx]; simp [rowM]; omega
  have f2 : MatM.full m = true := by unfold MatM.full; rw [hm]; simp; omega
  have px := VecM.right_place hx hr
  have pm := MatM.good_place hm hi hj
  have hn := VecM.right_n hx
  have hmn := m.good_n hm
  unfold VecM.place MatM.place at e
  have e' : x.off + r * x.inc = m.off + i + j * m.ld := by omega
  have k1 : (r : Int) * x.inc ≤ (x.n - 1) * x.inc := Int.mul_le_mul_of_nonneg_right (by omega) (by omega)
  have k2 : (j : Int) * m.ld ≤ (m.cols - 1) * m.ld := Int.mul_le_mul_of_nonneg_right (by omega) (by omega)
  unfold meetM spanLo spanHi at h
  rw [f1, f2] at h
  simp [rowM] at h
  omega
theorem _root_.Sedge.But.fs_ne {w w' : World} {a g c n : Nat} {ws : List Nat} (hb : But w [g] w') (h : FS w (.slice (some ⟨a, 0, none⟩) n c) ws) (hne : a ≠ g) : FS w' (.slice (some ⟨a, 0, none⟩) n c) ws := by
  obtain ⟨hl, a', cap, hv, h0, hc⟩ := h
  refine ⟨hl, a', cap, hv, h0, fun i hi => ?_⟩
  obtain ⟨blk, o, b, he, h1, h2⟩ := hc i hi
  refine ⟨blk, o, b, he, ?_, h2⟩
  have e : blk = a := by
    have e2 := hv
    simp only [Value.slice.injEq] at e2
    rw [he] at e2
    have e3 := e2.1
    simp only [Option.some.injEq, Addr.mk.injEq] at e3
    exact e3.1.symm
  rw [hb.cell (World.block_lt_of_cell? w _ h1) (by rw [e]; simpa using hne)]; exact h1
theorem meetM_false (x y : MatM) : meetM x y false = false := by unfold meetM; simp
theorem frozen_of_block' {w : World} {p i : Nat} {cs : Array Value} {e : TypeId} (h : w.heap[p]? = some (.cells cs e (0, 0))) : w.frozen? ⟨p, i, none⟩ = false := by
  unfold World.frozen?; simp [h]
theorem great_no {m : MatM} (h : MatM.great m = false) : m.ws.length ≤ 1000 ∧ m.rows ≤ 20 ∧ m.cols ≤ 20 := by simp [MatM.great] at h; omega
theorem long_no' {a : VecM} (h : VecM.long a = false) : a.ws.length ≤ 1000 ∧ a.n ≤ 60 := by simp [VecM.long] at h; omega
theorem FW.lit {w : World} {t : TypeId} (l : List Nat) (h : ∀ x ∈ l, IsF x x) : FW (w.alloc (.cells (l.map (Value.float .f64)).toArray t)) w.heap.size l := by
  refine ⟨(l.map (Value.float .f64)).toArray, t, by show (w.heap.push _)[w.heap.size]? = _; simp, by simp, fun i hi => ⟨l.getD i 0, ?_, ?_⟩⟩
  · simp [List.getD_eq_getElem?_getD, hi]
  · rw [List.getD_eq_getElem?_getD, List.getElem?_eq_getElem hi]
    exact h _ (List.getElem_mem hi)
theorem FW.lit' {w : World} {t : TypeId} (l : List Nat) (h : ∀ x ∈ l, IsF x x) (n : Nat) (hn : n = w.heap.size) : FW (w.alloc (.cells (l.map (Value.float .f64)).toArray t)) n l := by subst hn; exact FW.lit l h
end Go.Proofs.Ytcmggfpcbijcjaa
end
section
/-
  The walk of the law ResidTells (layer 22).
-/
set_option linter.unusedSimpArgs false
set_option linter.unusedVariables false
open Go Go.RowKit Sedge
namespace Go.Proofs.Ytcmggfpcbijcjaa
set_option maxRecDepth 100000 in
set_option maxHeartbeats 8000000 in
theorem residTells_any (m : MatM) (D VX : Value) (X : List Nat) (VY : Value) (Y : List Nat) (w : World) (hD : FS w D m.ws) (hwf : m.wf) (hX : FS w VX X) (hY : FS w VY Y) :
    Calls Try.prog 19 #[.agg #[D, .int .i64 m.off, .int .i64 m.rows, .int .i64 m.cols, .int .i64 m.ld], VX, VY] w (fun e w' => e = .returned (.bool true) ∧ ∃ o n, w' = ext w o n) := by
  obtain ⟨aX, cX, rfl⟩ := hX.shape
  obtain ⟨aY, cY, rfl⟩ := hY.shape
  have hgr : ∀ w', Grew w w' → Calls Try.prog 42 #[.agg #[D, .int .i64 m.off, .int .i64 m.rows, .int .i64 m.cols, .int .i64 m.ld]] w' (fun e w2 => e = .returned (.bool (MatM.great m)) ∧ ∃ o n, w2 = ext w' o n) := fun w' g => great_any m D w' (hD.grew g)
  have hgo : ∀ w', Grew w w' → Calls Try.prog 46 #[.agg #[D, .int .i64 m.off, .int .i64 m.rows, .int .i64 m.cols, .int .i64 m.ld]] w' (fun e w2 => e = .returned (.bool m.good) ∧ ∃ o n, w2 = ext w' o n) := fun w' g => rgood_any m D w' (hD.grew g) hwf
  have e00 : (FloatKind.f64.format.order 0 0 == some .eq) = true := by decide +kernel
  have HDm := hid hD
  have HXm := hid hX
  have HYm := hid hY
  have Hwf := hid hwf
  clear hD hX hY hwf
  cases hg : MatM.great m
  · rw [hg] at hgr
    obtain ⟨hl1, hl2, hl3⟩ := great_no hg
    by_cases r5 : 60 < X.length
    · have d5 : decide ((60 : Int) < (X.length : Int)) = true := by simp; omega
      clear hg
      go_enter Try.func19, Try.ntmps19
      refine seq_stop ?_
      go_wp2
      refine stop_go (fun W hW => ?_)
      have s1 : w.heap.size < W.heap.size := by rw [hW]; simp only [World.size_alloc]; omega
      have b1 : ∀ i, W.cell? ⟨w.heap.size, i, none⟩ = (#[D, .int .i64 m.off, .int .i64 m.rows, .int .i64 m.cols, .int .i64 m.ld] : Array Value)[i]? := by intro i; rw [hW]; go_simp
      have g0 : Grew w W := by rw [hW]; exact (Grew.refl _).alloc _
      clear hW
      go_wp2_with (first | (go_at_call 91; ((with_reducible refine (awake22 _).mono ?_); rintro e w1 ⟨rfl, o1, n1, rfl⟩)) | (go_at_call 42; ((with_reducible refine (hgr _ (Grew.trans g0 (by (show Grew _ _; repeat (first | (with_reducible exact Grew.refl _) | (with_reducible assumption) | (with_reducible exact Grew.same_o) | (with_reducible exact Grew.app_o) | (with_reducible refine Grew.ext ?_ _ _) | (with_reducible refine Grew.alloc ?_ _) | ((with_reducible refine Grew.setCell ?_ ?_ _); rotate_left; (focus (dsimp only; first | omega | (simp only [size_ext, World.size_alloc, Array.size_append]; omega)))) | (with_reducible refine Grew.drewN ?_ _) | (with_reducible refine Grew.drew ?_)))))).mono ?_); rintro e w1 ⟨rfl, o2, n2, rfl⟩)))
      go_ret
      exact ⟨rfl, Grew.trans g0 (by (show Grew _ _; repeat (first | (with_reducible exact Grew.refl _) | (with_reducible assumption) | (with_reducible exact Grew.same_o) | (with_reducible exact Grew.app_o) | (with_reducible refine Grew.ext ?_ _ _) | (with_reducible refine Grew.alloc ?_ _) | ((with_reducible refine Grew.setCell ?_ ?_ _); rotate_left; (focus (dsimp only; first | omega | (simp only [size_ext, World.size_alloc, Array.size_append]; omega)))) | (with_reducible refine Grew.drewN ?_ _) | (with_reducible refine Grew.drew ?_))))⟩
    · have d5 : decide ((60 : Int) < (X.length : Int)) = false := by simp; omega
      by_cases r6 : 60 < Y.length
      · have d6 : decide ((60 : Int) < (Y.length : Int)) = true := by simp; omega
        clear hg
        go_enter Try.func19, Try.ntmps19
        refine seq_stop ?_
        go_wp2
        refine stop_go (fun W hW => ?_)
        have s1 : w.heap.size < W.heap.size := by rw [hW]; simp only [World.size_alloc]; omega
        have b1 : ∀ i, W.cell? ⟨w.heap.size, i, none⟩ = (#[D, .int .i64 m.off, .int .i64 m.rows, .int .i64 m.cols, .int .i64 m.ld] : Array Value)[i]? := by intro i; rw [hW]; go_simp
        have g0 : Grew w W := by rw [hW]; exact (Grew.refl _).alloc _
        clear hW
        go_wp2_with (first | (go_at_call 91; ((with_reducible refine (awake22 _).mono ?_); rintro e w1 ⟨rfl, o1, n1, rfl⟩)) | (go_at_call 42; ((with_reducible refine (hgr _ (Grew.trans g0 (by (show Grew _ _; repeat (first | (with_reducible exact Grew.refl _) | (with_reducible assumption) | (with_reducible exact Grew.same_o) | (with_reducible exact Grew.app_o) | (with_reducible refine Grew.ext ?_ _ _) | (with_reducible refine Grew.alloc ?_ _) | ((with_reducible refine Grew.setCell ?_ ?_ _); rotate_left; (focus (dsimp only; first | omega | (simp only [size_ext, World.size_alloc, Array.size_append]; omega)))) | (with_reducible refine Grew.drewN ?_ _) | (with_reducible refine Grew.drew ?_)))))).mono ?_); rintro e w1 ⟨rfl, o2, n2, rfl⟩)))
        go_ret
        exact ⟨rfl, Grew.trans g0 (by (show Grew _ _; repeat (first | (with_reducible exact Grew.refl _) | (with_reducible assumption) | (with_reducible exact Grew.same_o) | (with_reducible exact Grew.app_o) | (with_reducible refine Grew.ext ?_ _ _) | (with_reducible refine Grew.alloc ?_ _) | ((with_reducible refine Grew.setCell ?_ ?_ _); rotate_left; (focus (dsimp only; first | omega | (simp only [size_ext, World.size_alloc, Array.size_append]; omega)))) | (with_reducible refine Grew.drewN ?_ _) | (with_reducible refine Grew.drew ?_))))⟩
      · have d6 : decide ((60 : Int) < (Y.length : Int)) = false := by simp; omega
        cases hgd : m.good
        · rw [hgd] at hgo
          have hchk : chkE m X.length Y.length = 1 := by unfold chkE; rw [if_pos hgd]
          clear hg hgd
          have hne : chkE m X.length Y.length ≠ 0 := by rw [hchk]; decide
          have hRest : ∀ w', Grew w w' → Calls Try.prog 94 #[.agg #[D, .int .i64 m.off, .int .i64 m.rows, .int .i64 m.cols, .int .i64 m.ld], .slice aX X.length cX, .slice aY Y.length cY] w' (fun e w2 => e = .returned (.tuple #[.slice none 0 0, .slice none 0 0, .int .i64 1]) ∧ ∃ o n, w2 = ext w' o n) := fun w' g => by
            have := rest_no m D _ _ X Y w' (HDm.out.grew g) (HXm.out.grew g) (HYm.out.grew g) Hwf.out hne
            rw [hchk] at this
            exact this
          have hBer : ∀ w', Grew w w' → Calls Try.prog 105 #[.agg #[D, .int .i64 m.off, .int .i64 m.rows, .int .i64 m.cols, .int .i64 m.ld], .slice aX X.length cX, .slice aY Y.length cY] w' (fun e w2 => e = .returned (.tuple #[.float .f64 0, .int .i64 1]) ∧ ∃ o n, w2 = ext w' o n) := fun w' g => by
            have := berr_no m D _ _ X Y w' (HDm.out.grew g) (HXm.out.grew g) (HYm.out.grew g) Hwf.out hne
            rw [hchk] at this
            exact this
          clear hchk hne
          go_enter Try.func19, Try.ntmps19
          refine seq_stop ?_
          go_wp2
          refine stop_go (fun W hW => ?_)
          have s1 : w.heap.size < W.heap.size := by rw [hW]; simp only [World.size_alloc]; omega
          have b1 : ∀ i, W.cell? ⟨w.heap.size, i, none⟩ = (#[D, .int .i64 m.off, .int .i64 m.rows, .int .i64 m.cols, .int .i64 m.ld] : Array Value)[i]? := by intro i; rw [hW]; go_simp
          have g0 : Grew w W := by rw [hW]; exact (Grew.refl _).alloc _
          clear hW
          go_wp2_with (first | (go_at_call 91; ((with_reducible refine (awake22 _).mono ?_); rintro e w1 ⟨rfl, o1, n1, rfl⟩)) | (go_at_call 42; ((with_reducible refine (hgr _ (Grew.trans g0 (by (show Grew _ _; repeat (first | (with_reducible exact Grew.refl _) | (with_reducible assumption) | (with_reducible exact Grew.same_o) | (with_reducible exact Grew.app_o) | (with_reducible refine Grew.ext ?_ _ _) | (with_reducible refine Grew.alloc ?_ _) | ((with_reducible refine Grew.setCell ?_ ?_ _); rotate_left; (focus (dsimp only; first | omega | (simp only [size_ext, World.size_alloc, Array.size_append]; omega)))) | (with_reducible refine Grew.drewN ?_ _) | (with_reducible refine Grew.drew ?_)))))).mono ?_); rintro e w1 ⟨rfl, o2, n2, rfl⟩)) | (go_at_call 46; ((with_reducible refine (hgo _ (Grew.trans g0 (by (show Grew _ _; repeat (first | (with_reducible exact Grew.refl _) | (with_reducible assumption) | (with_reducible exact Grew.same_o) | (with_reducible exact Grew.app_o) | (with_reducible refine Grew.ext ?_ _ _) | (with_reducible refine Grew.alloc ?_ _) | ((with_reducible refine Grew.setCell ?_ ?_ _); rotate_left; (focus (dsimp only; first | omega | (simp only [size_ext, World.size_alloc, Array.size_append]; omega)))) | (with_reducible refine Grew.drewN ?_ _) | (with_reducible refine Grew.drew ?_)))))).mono ?_); rintro e w1 ⟨rfl, o3, n3, rfl⟩)) | (go_at_call 94; ((with_reducible refine (hRest _ (Grew.trans g0 (by (show Grew _ _; repeat (first | (with_reducible exact Grew.refl _) | (with_reducible assumption) | (with_reducible exact Grew.same_o) | (with_reducible exact Grew.app_o) | (with_reducible refine Grew.ext ?_ _ _) | (with_reducible refine Grew.alloc ?_ _) | ((with_reducible refine Grew.setCell ?_ ?_ _); rotate_left; (focus (dsimp only; first | omega | (simp only [size_ext, World.size_alloc, Array.size_append]; omega)))) | (with_reducible refine Grew.drewN ?_ _) | (with_reducible refine Grew.drew ?_)))))).mono ?_); rintro e w1 ⟨rfl, o4, n4, rfl⟩)) | (go_at_call 105; ((with_reducible refine (hBer _ (Grew.trans g0 (by (show Grew _ _; repeat (first | (with_reducible exact Grew.refl _) | (with_reducible assumption) | (with_reducible exact Grew.same_o) | (with_reducible exact Grew.app_o) | (with_reducible refine Grew.ext ?_ _ _) | (with_reducible refine Grew.alloc ?_ _) | ((with_reducible refine Grew.setCell ?_ ?_ _); rotate_left; (focus (dsimp only; first | omega | (simp only [size_ext, World.size_alloc, Array.size_append]; omega)))) | (with_reducible refine Grew.drewN ?_ _) | (with_reducible refine Grew.drew ?_)))))).mono ?_); rintro e w1 ⟨rfl, o5, n5, rfl⟩)))
          go_ret
          exact ⟨rfl, Grew.trans g0 (by (show Grew _ _; repeat (first | (with_reducible exact Grew.refl _) | (with_reducible assumption) | (with_reducible exact Grew.same_o) | (with_reducible exact Grew.app_o) | (with_reducible refine Grew.ext ?_ _ _) | (with_reducible refine Grew.alloc ?_ _) | ((with_reducible refine Grew.setCell ?_ ?_ _); rotate_left; (focus (dsimp only; first | omega | (simp only [size_ext, World.size_alloc, Array.size_append]; omega)))) | (with_reducible refine Grew.drewN ?_ _) | (with_reducible refine Grew.drew ?_))))⟩
        · rw [hgd] at hgo
          have hg0 : ¬ m.good = false := by rw [hgd]; decide
          by_cases r2 : m.rows = m.cols
          · have d2 : (m.rows != m.cols) = false := by simpa using r2
            by_cases r3 : (X.length : Int) = m.rows
            · have d3 : ((X.length : Int) != m.rows) = false := by simpa using r3
              by_cases r4 : (Y.length : Int) = m.rows
              · have d4 : ((Y.length : Int) != m.rows) = false := by simpa using r4
                obtain ⟨n, hn⟩ : ∃ n : Nat, m.rows = n := ⟨m.rows.toNat, by have := MatM.good_n hgd; omega⟩
                have hnt : m.rows.toNat = n := by omega
                have hct : m.cols.toNat = n := by omega
                have hn20 : n ≤ 20 := by omega
                obtain ⟨RS, hRS⟩ : ∃ RS, RS = resL m X Y := ⟨_, rfl⟩
                obtain ⟨RB, hRB⟩ : ∃ RB, RB = rebL m X Y := ⟨_, rfl⟩
                obtain ⟨F, hF⟩ : ∃ F, F = bndL RS RB := ⟨_, rfl⟩
                obtain ⟨κ, hκ⟩ : ∃ κ, κ = berF m X Y := ⟨_, rfl⟩
                have lRS : RS.length = n := by rw [hRS]; exact (rowsTo_length _ _ _ _ _).trans hnt
                have lRB : RB.length = n := by rw [hRB]; exact (rowsTo_length _ _ _ _ _).trans hnt
                have lF : F.length = n := by rw [hF, bndL_length, lRS]
                have hRest : ∀ w', Grew w w' → Calls Try.prog 94 #[.agg #[D, .int .i64 m.off, .int .i64 m.rows, .int .i64 m.cols, .int .i64 m.ld], .slice aX X.length cX, .slice aY Y.length cY] w' (fun e w2 => ∃ v1 v2, e = .returned (.tuple #[v1, v2, .int .i64 0]) ∧ FS w2 v1 RS ∧ FS w2 v2 RB ∧ ∃ o n, w2 = ext w' o n) := fun w' g => by
                  refine (rest_any m D _ _ X Y w' (HDm.out.grew g) (HXm.out.grew g) (HYm.out.grew g) hgd Hwf.out (by omega) r2 (by omega) r3 r4).mono fun e w2 hh => ?_
                  obtain ⟨v1, v2, e1, e2, e3, e4⟩ := hh
                  rw [← hRS] at e2
                  rw [← hRB] at e3
                  exact ⟨v1, v2, e1, e2.fs (by omega), e3.fs (by omega), e4⟩
                have hBer : ∀ w', Grew w w' → Calls Try.prog 105 #[.agg #[D, .int .i64 m.off, .int .i64 m.rows, .int .i64 m.cols, .int .i64 m.ld], .slice aX X.length cX, .slice aY Y.length cY] w' (fun e w2 => ∃ q, e = .returned (.tuple #[.float .f64 q, .int .i64 0]) ∧ IsF q κ ∧ ∃ o n, w2 = ext w' o n) := fun w' g => by
                  rw [hκ]
                  exact berr_any m D _ _ X Y w' (HDm.out.grew g) (HXm.out.grew g) (HYm.out.grew g) hgd Hwf.out (by omega) r2 (by omega) r3 r4
                have hBnd : ∀ v1 v2 w', FS w' v1 RS → FS w' v2 RB → Calls Try.prog 92 #[v1, v2] w' (fun e w2 => ∃ v3, e = .returned (.tuple #[v3, .int .i64 0]) ∧ FS w2 v3 F ∧ ∃ o n, w2 = ext w' o n) := fun v1 v2 w' h1 h2 => by
                  refine (bounds_any v1 v2 _ _ w' h1 h2 (by omega) (by rw [lRS, lRB])).mono fun e w2 hh => ?_
                  obtain ⟨v3, e1, e2, e3⟩ := hh
                  rw [← hF] at e2
                  exact ⟨v3, e1, e2.fs (by omega), e3⟩
                have hRBnd : ∀ v1 v2 w', FS w' v1 RS → FS w' v2 RB → Calls Try.prog 93 #[v1, v2] w' (fun e w2 => ∃ v3, e = .returned v3 ∧ FS w2 v3 F ∧ ∃ o n, w2 = ext w' o n) := fun v1 v2 w' h1 h2 => by
                  refine (rbounds_any v1 v2 _ _ w' h1 h2 (by omega) (by rw [lRS, lRB])).mono fun e w2 hh => ?_
                  obtain ⟨v3, e1, e2, e3⟩ := hh
                  rw [← hF] at e2
                  exact ⟨v3, e1, e2.fs (by omega), e3⟩
                have hOf : ∀ w', Grew w w' → Calls Try.prog 48 #[.agg #[D, .int .i64 m.off, .int .i64 m.rows, .int .i64 m.cols, .int .i64 m.ld]] w' (fun e w2 => ∃ a c, e = .returned (.agg #[.int .i64 m.rows, .int .i64 m.cols, .slice a m.tab.length c]) ∧ FS w2 (.slice a m.tab.length c) m.tab ∧ ∃ o n, w2 = ext w' o n) := fun w' g => by
                  refine (rof_any m D w' (HDm.out.grew g) hgd (by omega) (by omega) (by omega) Hwf.out).mono fun e w2 hh => ?_
                  obtain ⟨v, e1, e2, e3⟩ := hh
                  obtain ⟨a, c, rfl⟩ := e2.fs.shape
                  exact ⟨a, c, e1, e2.fs, e3⟩
                have hRR : ∀ (a : Option Addr) (c : Nat) w', Grew w w' → FS w' (.slice a m.tab.length c) m.tab → Calls Try.prog 106 #[.agg #[.int .i64 m.rows, .int .i64 m.cols, .slice a m.tab.length c], .slice aX X.length cX, .slice aY Y.length cY] w' (fun e w2 => ∃ v1 v2, e = .returned (.tuple #[v1, v2]) ∧ FS w2 v1 RS ∧ FS w2 v2 RB ∧ ∃ o n, w2 = ext w' o n) := fun a c w' g hA => by
                  have h := rrest_any m _ _ _ X Y n w' hA (HXm.out.grew g) (HYm.out.grew g) hnt hct (by omega) (by omega) (by omega)
                  rw [← hRS, ← hRB] at h
                  rw [hn, ← r2, hn]
                  exact h
                have hRQ : ∀ (a : Option Addr) (c : Nat) w', Grew w w' → FS w' (.slice a m.tab.length c) m.tab → Calls Try.prog 107 #[.agg #[.int .i64 m.rows, .int .i64 m.cols, .slice a m.tab.length c], .slice aX X.length cX, .slice aY Y.length cY] w' (fun e w2 => ∃ q, e = .returned (.float .f64 q) ∧ IsF q κ ∧ ∃ o n, w2 = ext w' o n) := fun a c w' g hA => by
                  have h := rberr_any m _ _ _ X Y n w' hA (HXm.out.grew g) (HYm.out.grew g) hnt hct (by omega) (by omega) (by omega)
                  rw [← hκ] at h
                  rw [hn, ← r2, hn]
                  exact h
                obtain ⟨lT, hlT⟩ : ∃ lT, lT = m.tab.length := ⟨_, rfl⟩
                obtain ⟨T, hT⟩ : ∃ T, T = m.tab := ⟨_, rfl⟩
                rw [← hlT] at hOf hRR hRQ
                rw [← hT] at hOf hRR hRQ
                have dA1 : decide (RS = RS) = true := by simp
                have dA2 : decide (RB = RB) = true := by simp
                have dA3 : decide (F = F) = true := by simp
                have HRR := hid hRR
                have HRQ := hid hRQ
                clear hRS hRB hF hκ hg hgd r2 r3 r4 hnt hct hn hlT hT lRS lRB lF hRR hRQ hg0
                go_enter Try.func19, Try.ntmps19
                refine seq_stop ?_
                go_wp2
                refine stop_go (fun W hW => ?_)
                have s1 : w.heap.size < W.heap.size := by rw [hW]; simp only [World.size_alloc]; omega
                have b1 : ∀ i, W.cell? ⟨w.heap.size, i, none⟩ = (#[D, .int .i64 m.off, .int .i64 m.rows, .int .i64 m.cols, .int .i64 m.ld] : Array Value)[i]? := by intro i; rw [hW]; go_simp
                have g0 : Grew w W := by rw [hW]; exact (Grew.refl _).alloc _
                clear hW
                go_upto_region 12 with (first | (go_at_call 91; ((with_reducible refine (awake22 _).mono ?_); rintro e w1 ⟨rfl, o1, n1, rfl⟩)) | (go_at_call 42; ((with_reducible refine (hgr _ (Grew.trans g0 (by (show Grew _ _; (try simp only [← Array.append_assoc]); repeat (first | (with_reducible exact Grew.same_o) | (with_reducible exact Grew.refl _) | (with_reducible assumption) | (with_reducible refine Grew.alloc ?_ _) | (with_reducible refine Grew.app_r ?_) | ((with_reducible refine Grew.setCell ?_ ?_ _); rotate_left; (focus (dsimp only; first | omega | (simp only [size_ext, World.size_alloc, Array.size_append]; omega)))) | (with_reducible refine Grew.ext ?_ _ _) | (with_reducible refine Grew.drewN ?_ _) | (with_reducible refine Grew.drew ?_)))))).mono ?_); rintro e w1 ⟨rfl, o2, n2, rfl⟩)) | (go_at_call 46; ((with_reducible refine (hgo _ (Grew.trans g0 (by (show Grew _ _; (try simp only [← Array.append_assoc]); repeat (first | (with_reducible exact Grew.same_o) | (with_reducible exact Grew.refl _) | (with_reducible assumption) | (with_reducible refine Grew.alloc ?_ _) | (with_reducible refine Grew.app_r ?_) | ((with_reducible refine Grew.setCell ?_ ?_ _); rotate_left; (focus (dsimp only; first | omega | (simp only [size_ext, World.size_alloc, Array.size_append]; omega)))) | (with_reducible refine Grew.ext ?_ _ _) | (with_reducible refine Grew.drewN ?_ _) | (with_reducible refine Grew.drew ?_)))))).mono ?_); rintro e w1 ⟨rfl, o3, n3, rfl⟩)) | (go_at_call 94; ((with_reducible refine (hRest _ (Grew.trans g0 (by (show Grew _ _; (try simp only [← Array.append_assoc]); repeat (first | (with_reducible exact Grew.same_o) | (with_reducible exact Grew.refl _) | (with_reducible assumption) | (with_reducible refine Grew.alloc ?_ _) | (with_reducible refine Grew.app_r ?_) | ((with_reducible refine Grew.setCell ?_ ?_ _); rotate_left; (focus (dsimp only; first | omega | (simp only [size_ext, World.size_alloc, Array.size_append]; omega)))) | (with_reducible refine Grew.ext ?_ _ _) | (with_reducible refine Grew.drewN ?_ _) | (with_reducible refine Grew.drew ?_)))))).mono ?_); rintro e w1 ⟨v1, v2, rfl, hv1, hv2, o4, n4, rfl⟩)) | (go_at_call 105; ((with_reducible refine (hBer _ (Grew.trans g0 (by (show Grew _ _; (try simp only [← Array.append_assoc]); repeat (first | (with_reducible exact Grew.same_o) | (with_reducible exact Grew.refl _) | (with_reducible assumption) | (with_reducible refine Grew.alloc ?_ _) | (with_reducible refine Grew.app_r ?_) | ((with_reducible refine Grew.setCell ?_ ?_ _); rotate_left; (focus (dsimp only; first | omega | (simp only [size_ext, World.size_alloc, Array.size_append]; omega)))) | (with_reducible refine Grew.ext ?_ _ _) | (with_reducible refine Grew.drewN ?_ _) | (with_reducible refine Grew.drew ?_)))))).mono ?_); rintro e w1 ⟨q, rfl, hq, o5, n5, rfl⟩)) | (go_at_call 48; ((with_reducible refine (hOf _ (Grew.trans g0 (by (show Grew _ _; (try simp only [← Array.append_assoc]); repeat (first | (with_reducible exact Grew.same_o) | (with_reducible exact Grew.refl _) | (with_reducible assumption) | (with_reducible refine Grew.alloc ?_ _) | (with_reducible refine Grew.app_r ?_) | ((with_reducible refine Grew.setCell ?_ ?_ _); rotate_left; (focus (dsimp only; first | omega | (simp only [size_ext, World.size_alloc, Array.size_append]; omega)))) | (with_reducible refine Grew.ext ?_ _ _) | (with_reducible refine Grew.drewN ?_ _) | (with_reducible refine Grew.drew ?_)))))).mono ?_); rintro e w1 ⟨aT, cT, rfl, hT1, o6, n6, rfl⟩)))
                refine name_any (fun V hV => ?_)
                simp only [ext_ext] at hT1 hv1 hv2
                obtain ⟨k12, hk12⟩ : ∃ k12, k12 = W.heap.size + (o1.size + (o2.size + (o4.size + (o5.size + (o3.size + o6.size))))) := ⟨_, rfl⟩
                have gV : Grew W V := by rw [← hV]; (show Grew _ _; (try simp only [← Array.append_assoc]); repeat (first | (with_reducible exact Grew.same_o) | (with_reducible exact Grew.refl _) | (with_reducible assumption) | (with_reducible refine Grew.alloc ?_ _) | (with_reducible refine Grew.app_r ?_) | ((with_reducible refine Grew.setCell ?_ ?_ _); rotate_left; (focus (dsimp only; first | omega | (simp only [size_ext, World.size_alloc, Array.size_append]; omega)))) | (with_reducible refine Grew.ext ?_ _ _) | (with_reducible refine Grew.drewN ?_ _) | (with_reducible refine Grew.drew ?_)))
                have c12 : ∀ i, V.cell? ⟨k12, i, none⟩ = (#[.int .i64 m.rows, .int .i64 m.cols, .slice aT lT cT] : Array Value)[i]? := by subst hV; rw [hk12]; intro i; go_simp
                have z12 : k12 < V.heap.size := by rw [← hV, hk12]; simp only [World.size_alloc, size_ext, Array.size_append]; omega
                have hTV : FS V (.slice aT lT cT) T := hT1.grew (by rw [← hV]; (show Grew _ _; (try simp only [← Array.append_assoc]); repeat (first | (with_reducible exact Grew.same_o) | (with_reducible exact Grew.refl _) | (with_reducible assumption) | (with_reducible refine Grew.alloc ?_ _) | (with_reducible refine Grew.app_r ?_) | ((with_reducible refine Grew.setCell ?_ ?_ _); rotate_left; (focus (dsimp only; first | omega | (simp only [size_ext, World.size_alloc, Array.size_append]; omega)))) | (with_reducible refine Grew.ext ?_ _ _) | (with_reducible refine Grew.drewN ?_ _) | (with_reducible refine Grew.drew ?_))))
                have hv1V : FS V v1 RS := hv1.grew (by rw [← hV]; (show Grew _ _; (try simp only [← Array.append_assoc]); repeat (first | (with_reducible exact Grew.same_o) | (with_reducible exact Grew.refl _) | (with_reducible assumption) | (with_reducible refine Grew.alloc ?_ _) | (with_reducible refine Grew.app_r ?_) | ((with_reducible refine Grew.setCell ?_ ?_ _); rotate_left; (focus (dsimp only; first | omega | (simp only [size_ext, World.size_alloc, Array.size_append]; omega)))) | (with_reducible refine Grew.ext ?_ _ _) | (with_reducible refine Grew.drewN ?_ _) | (with_reducible refine Grew.drew ?_))))
                have hv2V : FS V v2 RB := hv2.grew (by rw [← hV]; (show Grew _ _; (try simp only [← Array.append_assoc]); repeat (first | (with_reducible exact Grew.same_o) | (with_reducible exact Grew.refl _) | (with_reducible assumption) | (with_reducible refine Grew.alloc ?_ _) | (with_reducible refine Grew.app_r ?_) | ((with_reducible refine Grew.setCell ?_ ?_ _); rotate_left; (focus (dsimp only; first | omega | (simp only [size_ext, World.size_alloc, Array.size_append]; omega)))) | (with_reducible refine Grew.ext ?_ _ _) | (with_reducible refine Grew.drewN ?_ _) | (with_reducible refine Grew.drew ?_))))
                have gw : Grew w V := Grew.trans g0 gV
                have hRR' := fun w' g => HRR.out aT cT w' (Grew.trans gw g) (hTV.grew g)
                have hRQ' := fun w' g => HRQ.out aT cT w' (Grew.trans gw g) (hTV.grew g)
                have HQ := hid hq
                simp only [← hk12]
                clear hV hk12 gV b1 s1 hT1 hOf g0 hv1 hv2 hgr hgo hRest hBer hTV hq
                go_wp2_with (first | (go_at_call 91; ((with_reducible refine (awake22 _).mono ?_); rintro e w1 ⟨rfl, o1, n1, rfl⟩)) | (go_at_call 106; ((with_reducible refine (hRR' _ (by (show Grew _ _; (try simp only [← Array.append_assoc]); repeat (first | (with_reducible exact Grew.same_o) | (with_reducible exact Grew.refl _) | (with_reducible assumption) | (with_reducible refine Grew.alloc ?_ _) | (with_reducible refine Grew.app_r ?_) | ((with_reducible refine Grew.setCell ?_ ?_ _); rotate_left; (focus (dsimp only; first | omega | (simp only [size_ext, World.size_alloc, Array.size_append]; omega)))) | (with_reducible refine Grew.ext ?_ _ _) | (with_reducible refine Grew.drewN ?_ _) | (with_reducible refine Grew.drew ?_))))).mono ?_); rintro e w1 ⟨u1, u2, rfl, hu1, hu2, p1, j1, rfl⟩)) | (go_at_call 92; ((with_reducible refine (hBnd _ _ _ hu1 hu2).mono ?_); rintro e w1 ⟨u3, rfl, hu3, p2, j2, rfl⟩; (try simp only [ext_ext] at hu3))) | (go_at_call 47; ((with_reducible refine (all_any v1 u1 RS RS _ (hv1V.grew (by (show Grew _ _; (try simp only [← Array.append_assoc]); repeat (first | (with_reducible exact Grew.same_o) | (with_reducible exact Grew.refl _) | (with_reducible assumption) | (with_reducible refine Grew.alloc ?_ _) | (with_reducible refine Grew.app_r ?_) | ((with_reducible refine Grew.setCell ?_ ?_ _); rotate_left; (focus (dsimp only; first | omega | (simp only [size_ext, World.size_alloc, Array.size_append]; omega)))) | (with_reducible refine Grew.ext ?_ _ _) | (with_reducible refine Grew.drewN ?_ _) | (with_reducible refine Grew.drew ?_))))) (hu1.grew (by (show Grew _ _; (try simp only [← Array.append_assoc]); repeat (first | (with_reducible exact Grew.same_o) | (with_reducible exact Grew.refl _) | (with_reducible assumption) | (with_reducible refine Grew.alloc ?_ _) | (with_reducible refine Grew.app_r ?_) | ((with_reducible refine Grew.setCell ?_ ?_ _); rotate_left; (focus (dsimp only; first | omega | (simp only [size_ext, World.size_alloc, Array.size_append]; omega)))) | (with_reducible refine Grew.ext ?_ _ _) | (with_reducible refine Grew.drewN ?_ _) | (with_reducible refine Grew.drew ?_)))))).mono ?_); rintro e w1 ⟨rfl, p3, j3, rfl⟩)) | (go_at_call 47; ((with_reducible refine (all_any v2 u2 RB RB _ (hv2V.grew (by (show Grew _ _; (try simp only [← Array.append_assoc]); repeat (first | (with_reducible exact Grew.same_o) | (with_reducible exact Grew.refl _) | (with_reducible assumption) | (with_reducible refine Grew.alloc ?_ _) | (with_reducible refine Grew.app_r ?_) | ((with_reducible refine Grew.setCell ?_ ?_ _); rotate_left; (focus (dsimp only; first | omega | (simp only [size_ext, World.size_alloc, Array.size_append]; omega)))) | (with_reducible refine Grew.ext ?_ _ _) | (with_reducible refine Grew.drewN ?_ _) | (with_reducible refine Grew.drew ?_))))) (hu2.grew (by (show Grew _ _; (try simp only [← Array.append_assoc]); repeat (first | (with_reducible exact Grew.same_o) | (with_reducible exact Grew.refl _) | (with_reducible assumption) | (with_reducible refine Grew.alloc ?_ _) | (with_reducible refine Grew.app_r ?_) | ((with_reducible refine Grew.setCell ?_ ?_ _); rotate_left; (focus (dsimp only; first | omega | (simp only [size_ext, World.size_alloc, Array.size_append]; omega)))) | (with_reducible refine Grew.ext ?_ _ _) | (with_reducible refine Grew.drewN ?_ _) | (with_reducible refine Grew.drew ?_)))))).mono ?_); rintro e w1 ⟨rfl, p4, j4, rfl⟩)) | (go_at_call 93; ((with_reducible refine (hRBnd _ _ _ (hu1.grew (by (show Grew _ _; (try simp only [← Array.append_assoc]); repeat (first | (with_reducible exact Grew.same_o) | (with_reducible exact Grew.refl _) | (with_reducible assumption) | (with_reducible refine Grew.alloc ?_ _) | (with_reducible refine Grew.app_r ?_) | ((with_reducible refine Grew.setCell ?_ ?_ _); rotate_left; (focus (dsimp only; first | omega | (simp only [size_ext, World.size_alloc, Array.size_append]; omega)))) | (with_reducible refine Grew.ext ?_ _ _) | (with_reducible refine Grew.drewN ?_ _) | (with_reducible refine Grew.drew ?_))))) (hu2.grew (by (show Grew _ _; (try simp only [← Array.append_assoc]); repeat (first | (with_reducible exact Grew.same_o) | (with_reducible exact Grew.refl _) | (with_reducible assumption) | (with_reducible refine Grew.alloc ?_ _) | (with_reducible refine Grew.app_r ?_) | ((with_reducible refine Grew.setCell ?_ ?_ _); rotate_left; (focus (dsimp only; first | omega | (simp only [size_ext, World.size_alloc, Array.size_append]; omega)))) | (with_reducible refine Grew.ext ?_ _ _) | (with_reducible refine Grew.drewN ?_ _) | (with_reducible refine Grew.drew ?_)))))).mono ?_); rintro e w1 ⟨u4, rfl, hu4, p5, j5, rfl⟩; (try simp only [ext_ext] at hu4))) | (go_at_call 47; ((with_reducible refine (all_any u3 u4 F F _ (hu3.grew (by (show Grew _ _; (try simp only [← Array.append_assoc]); repeat (first | (with_reducible exact Grew.same_o) | (with_reducible exact Grew.refl _) | (with_reducible assumption) | (with_reducible refine Grew.alloc ?_ _) | (with_reducible refine Grew.app_r ?_) | ((with_reducible refine Grew.setCell ?_ ?_ _); rotate_left; (focus (dsimp only; first | omega | (simp only [size_ext, World.size_alloc, Array.size_append]; omega)))) | (with_reducible refine Grew.ext ?_ _ _) | (with_reducible refine Grew.drewN ?_ _) | (with_reducible refine Grew.drew ?_))))) (hu4.grew (by (show Grew _ _; (try simp only [← Array.append_assoc]); repeat (first | (with_reducible exact Grew.same_o) | (with_reducible exact Grew.refl _) | (with_reducible assumption) | (with_reducible refine Grew.alloc ?_ _) | (with_reducible refine Grew.app_r ?_) | ((with_reducible refine Grew.setCell ?_ ?_ _); rotate_left; (focus (dsimp only; first | omega | (simp only [size_ext, World.size_alloc, Array.size_append]; omega)))) | (with_reducible refine Grew.ext ?_ _ _) | (with_reducible refine Grew.drewN ?_ _) | (with_reducible refine Grew.drew ?_)))))).mono ?_); rintro e w1 ⟨rfl, p6, j6, rfl⟩)) | (go_at_call 107; ((with_reducible refine (hRQ' _ (by (show Grew _ _; (try simp only [← Array.append_assoc]); repeat (first | (with_reducible exact Grew.same_o) | (with_reducible exact Grew.refl _) | (with_reducible assumption) | (with_reducible refine Grew.alloc ?_ _) | (with_reducible refine Grew.app_r ?_) | ((with_reducible refine Grew.setCell ?_ ?_ _); rotate_left; (focus (dsimp only; first | omega | (simp only [size_ext, World.size_alloc, Array.size_append]; omega)))) | (with_reducible refine Grew.ext ?_ _ _) | (with_reducible refine Grew.drewN ?_ _) | (with_reducible refine Grew.drew ?_))))).mono ?_); rintro e w1 ⟨q2, rfl, hq2, p7, j7, rfl⟩; (have HQ2 := hid hq2); clear hq2)) | (go_at_call 37; ((with_reducible refine (same_any q q2 κ κ _ HQ.out HQ2.out).mono ?_); rintro e w1 ⟨rfl, rfl⟩)))
                go_ret
                exact ⟨rfl, Grew.trans gw (by (show Grew _ _; (try simp only [← Array.append_assoc]); repeat (first | (with_reducible exact Grew.same_o) | (with_reducible exact Grew.refl _) | (with_reducible assumption) | (with_reducible refine Grew.alloc ?_ _) | (with_reducible refine Grew.app_r ?_) | ((with_reducible refine Grew.setCell ?_ ?_ _); rotate_left; (focus (dsimp only; first | omega | (simp only [size_ext, World.size_alloc, Array.size_append]; omega)))) | (with_reducible refine Grew.ext ?_ _ _) | (with_reducible refine Grew.drewN ?_ _) | (with_reducible refine Grew.drew ?_))))⟩
              · have d4 : ((Y.length : Int) != m.rows) = true := by simpa using r4
                have hchk : chkE m X.length Y.length = 3 := by unfold chkE; rw [if_neg hg0, if_pos (.inr (.inr (.inr r4)))]
                clear hg hgd r2 r3 r4 hg0
                have hne : chkE m X.length Y.length ≠ 0 := by rw [hchk]; decide
                have hRest : ∀ w', Grew w w' → Calls Try.prog 94 #[.agg #[D, .int .i64 m.off, .int .i64 m.rows, .int .i64 m.cols, .int .i64 m.ld], .slice aX X.length cX, .slice aY Y.length cY] w' (fun e w2 => e = .returned (.tuple #[.slice none 0 0, .slice none 0 0, .int .i64 3]) ∧ ∃ o n, w2 = ext w' o n) := fun w' g => by
                  have := rest_no m D _ _ X Y w' (HDm.out.grew g) (HXm.out.grew g) (HYm.out.grew g) Hwf.out hne
                  rw [hchk] at this
                  exact this
                have hBer : ∀ w', Grew w w' → Calls Try.prog 105 #[.agg #[D, .int .i64 m.off, .int .i64 m.rows, .int .i64 m.cols, .int .i64 m.ld], .slice aX X.length cX, .slice aY Y.length cY] w' (fun e w2 => e = .returned (.tuple #[.float .f64 0, .int .i64 3]) ∧ ∃ o n, w2 = ext w' o n) := fun w' g => by
                  have := berr_no m D _ _ X Y w' (HDm.out.grew g) (HXm.out.grew g) (HYm.out.grew g) Hwf.out hne
                  rw [hchk] at this
                  exact this
                clear hchk hne
                go_enter Try.func19, Try.ntmps19
                refine seq_stop ?_
                go_wp2
                refine stop_go (fun W hW => ?_)
                have s1 : w.heap.size < W.heap.size := by rw [hW]; simp only [World.size_alloc]; omega
                have b1 : ∀ i, W.cell? ⟨w.heap.size, i, none⟩ = (#[D, .int .i64 m.off, .int .i64 m.rows, .int .i64 m.cols, .int .i64 m.ld] : Array Value)[i]? := by intro i; rw [hW]; go_simp
                have g0 : Grew w W := by rw [hW]; exact (Grew.refl _).alloc _
                clear hW
                go_wp2_with (first | (go_at_call 91; ((with_reducible refine (awake22 _).mono ?_); rintro e w1 ⟨rfl, o1, n1, rfl⟩)) | (go_at_call 42; ((with_reducible refine (hgr _ (Grew.trans g0 (by (show Grew _ _; repeat (first | (with_reducible exact Grew.refl _) | (with_reducible assumption) | (with_reducible exact Grew.same_o) | (with_reducible exact Grew.app_o) | (with_reducible refine Grew.ext ?_ _ _) | (with_reducible refine Grew.alloc ?_ _) | ((with_reducible refine Grew.setCell ?_ ?_ _); rotate_left; (focus (dsimp only; first | omega | (simp only [size_ext, World.size_alloc, Array.size_append]; omega)))) | (with_reducible refine Grew.drewN ?_ _) | (with_reducible refine Grew.drew ?_)))))).mono ?_); rintro e w1 ⟨rfl, o2, n2, rfl⟩)) | (go_at_call 46; ((with_reducible refine (hgo _ (Grew.trans g0 (by (show Grew _ _; repeat (first | (with_reducible exact Grew.refl _) | (with_reducible assumption) | (with_reducible exact Grew.same_o) | (with_reducible exact Grew.app_o) | (with_reducible refine Grew.ext ?_ _ _) | (with_reducible refine Grew.alloc ?_ _) | ((with_reducible refine Grew.setCell ?_ ?_ _); rotate_left; (focus (dsimp only; first | omega | (simp only [size_ext, World.size_alloc, Array.size_append]; omega)))) | (with_reducible refine Grew.drewN ?_ _) | (with_reducible refine Grew.drew ?_)))))).mono ?_); rintro e w1 ⟨rfl, o3, n3, rfl⟩)) | (go_at_call 94; ((with_reducible refine (hRest _ (Grew.trans g0 (by (show Grew _ _; repeat (first | (with_reducible exact Grew.refl _) | (with_reducible assumption) | (with_reducible exact Grew.same_o) | (with_reducible exact Grew.app_o) | (with_reducible refine Grew.ext ?_ _ _) | (with_reducible refine Grew.alloc ?_ _) | ((with_reducible refine Grew.setCell ?_ ?_ _); rotate_left; (focus (dsimp only; first | omega | (simp only [size_ext, World.size_alloc, Array.size_append]; omega)))) | (with_reducible refine Grew.drewN ?_ _) | (with_reducible refine Grew.drew ?_)))))).mono ?_); rintro e w1 ⟨rfl, o4, n4, rfl⟩)) | (go_at_call 105; ((with_reducible refine (hBer _ (Grew.trans g0 (by (show Grew _ _; repeat (first | (with_reducible exact Grew.refl _) | (with_reducible assumption) | (with_reducible exact Grew.same_o) | (with_reducible exact Grew.app_o) | (with_reducible refine Grew.ext ?_ _ _) | (with_reducible refine Grew.alloc ?_ _) | ((with_reducible refine Grew.setCell ?_ ?_ _); rotate_left; (focus (dsimp only; first | omega | (simp only [size_ext, World.size_alloc, Array.size_append]; omega)))) | (with_reducible refine Grew.drewN ?_ _) | (with_reducible refine Grew.drew ?_)))))).mono ?_); rintro e w1 ⟨rfl, o5, n5, rfl⟩)))
                go_ret
                exact ⟨rfl, Grew.trans g0 (by (show Grew _ _; repeat (first | (with_reducible exact Grew.refl _) | (with_reducible assumption) | (with_reducible exact Grew.same_o) | (with_reducible exact Grew.app_o) | (with_reducible refine Grew.ext ?_ _ _) | (with_reducible refine Grew.alloc ?_ _) | ((with_reducible refine Grew.setCell ?_ ?_ _); rotate_left; (focus (dsimp only; first | omega | (simp only [size_ext, World.size_alloc, Array.size_append]; omega)))) | (with_reducible refine Grew.drewN ?_ _) | (with_reducible refine Grew.drew ?_))))⟩
            · have d3 : ((X.length : Int) != m.rows) = true := by simpa using r3
              have hchk : chkE m X.length Y.length = 3 := by unfold chkE; rw [if_neg hg0, if_pos (.inr (.inr (.inl r3)))]
              clear hg hgd r2 r3 hg0
              have hne : chkE m X.length Y.length ≠ 0 := by rw [hchk]; decide
              have hRest : ∀ w', Grew w w' → Calls Try.prog 94 #[.agg #[D, .int .i64 m.off, .int .i64 m.rows, .int .i64 m.cols, .int .i64 m.ld], .slice aX X.length cX, .slice aY Y.length cY] w' (fun e w2 => e = .returned (.tuple #[.slice none 0 0, .slice none 0 0, .int .i64 3]) ∧ ∃ o n, w2 = ext w' o n) := fun w' g => by
                have := rest_no m D _ _ X Y w' (HDm.out.grew g) (HXm.out.grew g) (HYm.out.grew g) Hwf.out hne
                rw [hchk] at this
                exact this
              have hBer : ∀ w', Grew w w' → Calls Try.prog 105 #[.agg #[D, .int .i64 m.off, .int .i64 m.rows, .int .i64 m.cols, .int .i64 m.ld], .slice aX X.length cX, .slice aY Y.length cY] w' (fun e w2 => e = .returned (.tuple #[.float .f64 0, .int .i64 3]) ∧ ∃ o n, w2 = ext w' o n) := fun w' g => by
                have := berr_no m D _ _ X Y w' (HDm.out.grew g) (HXm.out.grew g) (HYm.out.grew g) Hwf.out hne
                rw [hchk] at this
                exact this
              clear hchk hne
              go_enter Try.func19, Try.ntmps19
              refine seq_stop ?_
              go_wp2
              refine stop_go (fun W hW => ?_)
              have s1 : w.heap.size < W.heap.size := by rw [hW]; simp only [World.size_alloc]; omega
              have b1 : ∀ i, W.cell? ⟨w.heap.size, i, none⟩ = (#[D, .int .i64 m.off, .int .i64 m.rows, .int .i64 m.cols, .int .i64 m.ld] : Array Value)[i]? := by intro i; rw [hW]; go_simp
              have g0 : Grew w W := by rw [hW]; exact (Grew.refl _).alloc _
              clear hW
              go_wp2_with (first | (go_at_call 91; ((with_reducible refine (awake22 _).mono ?_); rintro e w1 ⟨rfl, o1, n1, rfl⟩)) | (go_at_call 42; ((with_reducible refine (hgr _ (Grew.trans g0 (by (show Grew _ _; repeat (first | (with_reducible exact Grew.refl _) | (with_reducible assumption) | (with_reducible exact Grew.same_o) | (with_reducible exact Grew.app_o) | (with_reducible refine Grew.ext ?_ _ _) | (with_reducible refine Grew.alloc ?_ _) | ((with_reducible refine Grew.setCell ?_ ?_ _); rotate_left; (focus (dsimp only; first | omega | (simp only [size_ext, World.size_alloc, Array.size_append]; omega)))) | (with_reducible refine Grew.drewN ?_ _) | (with_reducible refine Grew.drew ?_)))))).mono ?_); rintro e w1 ⟨rfl, o2, n2, rfl⟩)) | (go_at_call 46; ((with_reducible refine (hgo _ (Grew.trans g0 (by (show Grew _ _; repeat (first | (with_reducible exact Grew.refl _) | (with_reducible assumption) | (with_reducible exact Grew.same_o) | (with_reducible exact Grew.app_o) | (with_reducible refine Grew.ext ?_ _ _) | (with_reducible refine Grew.alloc ?_ _) | ((with_reducible refine Grew.setCell ?_ ?_ _); rotate_left; (focus (dsimp only; first | omega | (simp only [size_ext, World.size_alloc, Array.size_append]; omega)))) | (with_reducible refine Grew.drewN ?_ _) | (with_reducible refine Grew.drew ?_)))))).mono ?_); rintro e w1 ⟨rfl, o3, n3, rfl⟩)) | (go_at_call 94; ((with_reducible refine (hRest _ (Grew.trans g0 (by (show Grew _ _; repeat (first | (with_reducible exact Grew.refl _) | (with_reducible assumption) | (with_reducible exact Grew.same_o) | (with_reducible exact Grew.app_o) | (with_reducible refine Grew.ext ?_ _ _) | (with_reducible refine Grew.alloc ?_ _) | ((with_reducible refine Grew.setCell ?_ ?_ _); rotate_left; (focus (dsimp only; first | omega | (simp only [size_ext, World.size_alloc, Array.size_append]; omega)))) | (with_reducible refine Grew.drewN ?_ _) | (with_reducible refine Grew.drew ?_)))))).mono ?_); rintro e w1 ⟨rfl, o4, n4, rfl⟩)) | (go_at_call 105; ((with_reducible refine (hBer _ (Grew.trans g0 (by (show Grew _ _; repeat (first | (with_reducible exact Grew.refl _) | (with_reducible assumption) | (with_reducible exact Grew.same_o) | (with_reducible exact Grew.app_o) | (with_reducible refine Grew.ext ?_ _ _) | (with_reducible refine Grew.alloc ?_ _) | ((with_reducible refine Grew.setCell ?_ ?_ _); rotate_left; (focus (dsimp only; first | omega | (simp only [size_ext, World.size_alloc, Array.size_append]; omega)))) | (with_reducible refine Grew.drewN ?_ _) | (with_reducible refine Grew.drew ?_)))))).mono ?_); rintro e w1 ⟨rfl, o5, n5, rfl⟩)))
              go_ret
              exact ⟨rfl, Grew.trans g0 (by (show Grew _ _; repeat (first | (with_reducible exact Grew.refl _) | (with_reducible assumption) | (with_reducible exact Grew.same_o) | (with_reducible exact Grew.app_o) | (with_reducible refine Grew.ext ?_ _ _) | (with_reducible refine Grew.alloc ?_ _) | ((with_reducible refine Grew.setCell ?_ ?_ _); rotate_left; (focus (dsimp only; first | omega | (simp only [size_ext, World.size_alloc, Array.size_append]; omega)))) | (with_reducible refine Grew.drewN ?_ _) | (with_reducible refine Grew.drew ?_))))⟩
          · have d2 : (m.rows != m.cols) = true := by simpa using r2
            have hchk : chkE m X.length Y.length = 3 := by unfold chkE; rw [if_neg hg0, if_pos (.inl r2)]
            clear hg hgd r2 hg0
            have hne : chkE m X.length Y.length ≠ 0 := by rw [hchk]; decide
            have hRest : ∀ w', Grew w w' → Calls Try.prog 94 #[.agg #[D, .int .i64 m.off, .int .i64 m.rows, .int .i64 m.cols, .int .i64 m.ld], .slice aX X.length cX, .slice aY Y.length cY] w' (fun e w2 => e = .returned (.tuple #[.slice none 0 0, .slice none 0 0, .int .i64 3]) ∧ ∃ o n, w2 = ext w' o n) := fun w' g => by
              have := rest_no m D _ _ X Y w' (HDm.out.grew g) (HXm.out.grew g) (HYm.out.grew g) Hwf.out hne
              rw [hchk] at this
              exact this
            have hBer : ∀ w', Grew w w' → Calls Try.prog 105 #[.agg #[D, .int .i64 m.off, .int .i64 m.rows, .int .i64 m.cols, .int .i64 m.ld], .slice aX X.length cX, .slice aY Y.length cY] w' (fun e w2 => e = .returned (.tuple #[.float .f64 0, .int .i64 3]) ∧ ∃ o n, w2 = ext w' o n) := fun w' g => by
              have := berr_no m D _ _ X Y w' (HDm.out.grew g) (HXm.out.grew g) (HYm.out.grew g) Hwf.out hne
              rw [hchk] at this
              exact this
            clear hchk hne
            go_enter Try.func19, Try.ntmps19
            refine seq_stop ?_
            go_wp2
            refine stop_go (fun W hW => ?_)
            have s1 : w.heap.size < W.heap.size := by rw [hW]; simp only [World.size_alloc]; omega
            have b1 : ∀ i, W.cell? ⟨w.heap.size, i, none⟩ = (#[D, .int .i64 m.off, .int .i64 m.rows, .int .i64 m.cols, .int .i64 m.ld] : Array Value)[i]? := by intro i; rw [hW]; go_simp
            have g0 : Grew w W := by rw [hW]; exact (Grew.refl _).alloc _
            clear hW
            go_wp2_with (first | (go_at_call 91; ((with_reducible refine (awake22 _).mono ?_); rintro e w1 ⟨rfl, o1, n1, rfl⟩)) | (go_at_call 42; ((with_reducible refine (hgr _ (Grew.trans g0 (by (show Grew _ _; repeat (first | (with_reducible exact Grew.refl _) | (with_reducible assumption) | (with_reducible exact Grew.same_o) | (with_reducible exact Grew.app_o) | (with_reducible refine Grew.ext ?_ _ _) | (with_reducible refine Grew.alloc ?_ _) | ((with_reducible refine Grew.setCell ?_ ?_ _); rotate_left; (focus (dsimp only; first | omega | (simp only [size_ext, World.size_alloc, Array.size_append]; omega)))) | (with_reducible refine Grew.drewN ?_ _) | (with_reducible refine Grew.drew ?_)))))).mono ?_); rintro e w1 ⟨rfl, o2, n2, rfl⟩)) | (go_at_call 46; ((with_reducible refine (hgo _ (Grew.trans g0 (by (show Grew _ _; repeat (first | (with_reducible exact Grew.refl _) | (with_reducible assumption) | (with_reducible exact Grew.same_o) | (with_reducible exact Grew.app_o) | (with_reducible refine Grew.ext ?_ _ _) | (with_reducible refine Grew.alloc ?_ _) | ((with_reducible refine Grew.setCell ?_ ?_ _); rotate_left; (focus (dsimp only; first | omega | (simp only [size_ext, World.size_alloc, Array.size_append]; omega)))) | (with_reducible refine Grew.drewN ?_ _) | (with_reducible refine Grew.drew ?_)))))).mono ?_); rintro e w1 ⟨rfl, o3, n3, rfl⟩)) | (go_at_call 94; ((with_reducible refine (hRest _ (Grew.trans g0 (by (show Grew _ _; repeat (first | (with_reducible exact Grew.refl _) | (with_reducible assumption) | (with_reducible exact Grew.same_o) | (with_reducible exact Grew.app_o) | (with_reducible refine Grew.ext ?_ _ _) | (with_reducible refine Grew.alloc ?_ _) | ((with_reducible refine Grew.setCell ?_ ?_ _); rotate_left; (focus (dsimp only; first | omega | (simp only [size_ext, World.size_alloc, Array.size_append]; omega)))) | (with_reducible refine Grew.drewN ?_ _) | (with_reducible refine Grew.drew ?_)))))).mono ?_); rintro e w1 ⟨rfl, o4, n4, rfl⟩)) | (go_at_call 105; ((with_reducible refine (hBer _ (Grew.trans g0 (by (show Grew _ _; repeat (first | (with_reducible exact Grew.refl _) | (with_reducible assumption) | (with_reducible exact Grew.same_o) | (with_reducible exact Grew.app_o) | (with_reducible refine Grew.ext ?_ _ _) | (with_reducible refine Grew.alloc ?_ _) | ((with_reducible refine Grew.setCell ?_ ?_ _); rotate_left; (focus (dsimp only; first | omega | (simp only [size_ext, World.size_alloc, Array.size_append]; omega)))) | (with_reducible refine Grew.drewN ?_ _) | (with_reducible refine Grew.drew ?_)))))).mono ?_); rintro e w1 ⟨rfl, o5, n5, rfl⟩)))
            go_ret
            exact ⟨rfl, Grew.trans g0 (by (show Grew _ _; repeat (first | (with_reducible exact Grew.refl _) | (with_reducible assumption) | (with_reducible exact Grew.same_o) | (with_reducible exact Grew.app_o) | (with_reducible refine Grew.ext ?_ _ _) | (with_reducible refine Grew.alloc ?_ _) | ((with_reducible refine Grew.setCell ?_ ?_ _); rotate_left; (focus (dsimp only; first | omega | (simp only [size_ext, World.size_alloc, Array.size_append]; omega)))) | (with_reducible refine Grew.drewN ?_ _) | (with_reducible refine Grew.drew ?_))))⟩
  · rw [hg] at hgr
    clear hg
    go_enter Try.func19, Try.ntmps19
    refine seq_stop ?_
    go_wp2
    refine stop_go (fun W hW => ?_)
    have s1 : w.heap.size < W.heap.size := by rw [hW]; simp only [World.size_alloc]; omega
    have b1 : ∀ i, W.cell? ⟨w.heap.size, i, none⟩ = (#[D, .int .i64 m.off, .int .i64 m.rows, .int .i64 m.cols, .int .i64 m.ld] : Array Value)[i]? := by intro i; rw [hW]; go_simp
    have g0 : Grew w W := by rw [hW]; exact (Grew.refl _).alloc _
    clear hW
    go_wp2_with (first | (go_at_call 91; ((with_reducible refine (awake22 _).mono ?_); rintro e w1 ⟨rfl, o1, n1, rfl⟩)) | (go_at_call 42; ((with_reducible refine (hgr _ (Grew.trans g0 (by (show Grew _ _; repeat (first | (with_reducible exact Grew.refl _) | (with_reducible assumption) | (with_reducible exact Grew.same_o) | (with_reducible exact Grew.app_o) | (with_reducible refine Grew.ext ?_ _ _) | (with_reducible refine Grew.alloc ?_ _) | ((with_reducible refine Grew.setCell ?_ ?_ _); rotate_left; (focus (dsimp only; first | omega | (simp only [size_ext, World.size_alloc, Array.size_append]; omega)))) | (with_reducible refine Grew.drewN ?_ _) | (with_reducible refine Grew.drew ?_)))))).mono ?_); rintro e w1 ⟨rfl, o2, n2, rfl⟩)))
    go_ret
    exact ⟨rfl, Grew.trans g0 (by (show Grew _ _; repeat (first | (with_reducible exact Grew.refl _) | (with_reducible assumption) | (with_reducible exact Grew.same_o) | (with_reducible exact Grew.app_o) | (with_reducible refine Grew.ext ?_ _ _) | (with_reducible refine Grew.alloc ?_ _) | ((with_reducible refine Grew.setCell ?_ ?_ _); rotate_left; (focus (dsimp only; first | omega | (simp only [size_ext, World.size_alloc, Array.size_append]; omega)))) | (with_reducible refine Grew.drewN ?_ _) | (with_reducible refine Grew.drew ?_))))⟩
end Go.Proofs.Ytcmggfpcbijcjaa
end
section
/-
  The dump's head as a list of signs, laid by their numbers: the kernel reckons on such a list, not on the text.
-/
set_option linter.unusedSimpArgs false
set_option linter.unusedVariables false
namespace Go.Proofs.Ytcmggfpcbijcjaa
theorem may_cut {P : Program} {c : List Char} {rest : List (List Char)} (h : behindMainWord (wordsSigns P.initOrder.toList) = c :: rest) (hs : stripLifts liftWords (c :: rest) = ([], c :: rest))
    (hc : (c == "cut".toList) = true) (hl : P.laysLater = false) (hr : P.bearsReflect = false) (hd : P.doorFits [] = true) : P.mayEnter = true := by
  have hc' : c = "cut".toList := by simpa using hc
  unfold Program.mayEnter
  rw [h]
  simp only [hs, hl, hr, hd, List.head?_cons, List.contains_nil, Bool.false_or, Bool.not_false, Bool.and_true, Bool.or_true]
  rw [hc']
  simp
theorem final_cut {P : Program} {c : List Char} {rest : List (List Char)} (h : behindMainWord (wordsSigns P.initOrder.toList) = c :: rest) (hs : stripLifts liftWords (c :: rest) = ([], c :: rest))
    (hc : (c == "carried".toList) = false) : P.liftsFinal = false := by
  unfold Program.liftsFinal Program.headLifts
  simp only [h, hs, List.head?_cons, List.contains_nil, ite_self, Bool.or_false]
  have : (some c == some "carried".toList) = false := by simpa using hc
  rw [this]
  rfl
theorem make_cut {P : Program} {c : List Char} {rest : List (List Char)} (h : behindMainWord (wordsSigns P.initOrder.toList) = c :: rest)
    (h1 : (c == "gc".toList || c == "spec".toList) = false) (h2 : (c == "cut".toList) = true) : P.make = some .cut := by
  unfold Program.make
  rw [h]
  simp only [h1, h2, Bool.true_or, Bool.false_eq_true, if_false, if_true]
def headCodes : List Nat := [
  104, 97, 114, 110, 101, 115, 115, 32, 51, 102, 52, 100, 97, 51, 56, 49, 53, 101, 98, 97, 49, 97, 55, 99, 97, 51, 97, 53, 57, 98, 51, 57, 53, 55, 97, 97, 53, 56, 102, 57,
  54, 102, 100, 51, 48, 56, 99, 48, 99, 51, 57, 99, 54, 57, 56, 51, 57, 48, 54, 97, 99, 49, 97, 102, 48, 98, 102, 98, 49, 100, 49, 54, 32, 99, 117, 116, 32, 97, 116, 32,
  115, 116, 114, 97, 105, 103, 104, 116, 101, 100, 103, 101, 47, 115, 116, 114, 97, 105, 103, 104, 116, 101, 100, 103, 101, 108, 97, 119, 48, 54, 46, 65, 120, 101, 115, 67, 108, 111, 115, 101,
  32, 115, 116, 114, 97, 105, 103, 104, 116, 101, 100, 103, 101, 47, 115, 116, 114, 97, 105, 103, 104, 116, 101, 100, 103, 101, 108, 97, 119, 48, 53, 46, 83, 117, 109, 115, 76, 105, 115, 116,
  115, 32, 115, 116, 114, 97, 105, 103, 104, 116, 101, 100, 103, 101, 47, 115, 116, 114, 97, 105, 103, 104, 116, 101, 100, 103, 101, 108, 97, 119, 48, 52, 46, 77, 111, 118, 101, 82, 111, 119,
  115, 32, 115, 116, 114, 97, 105, 103, 104, 116, 101, 100, 103, 101, 47, 115, 116, 114, 97, 105, 103, 104, 116, 101, 100, 103, 101, 108, 97, 119, 48, 56, 46, 71, 101, 114, 84, 101, 108, 108,
  115, 32, 115, 116, 114, 97, 105, 103, 104, 116, 101, 100, 103, 101, 47, 115, 116, 114, 97, 105, 103, 104, 116, 101, 100, 103, 101, 108, 97, 119, 48, 52, 46, 77, 111, 118, 101, 86, 101, 99,
  116, 111, 114, 115, 32, 115, 116, 114, 97, 105, 103, 104, 116, 101, 100, 103, 101, 47, 115, 116, 114, 97, 105, 103, 104, 116, 101, 100, 103, 101, 108, 97, 119, 48, 55, 46, 71, 101, 109, 118,
  67, 108, 111, 115, 101, 32, 115, 116, 114, 97, 105, 103, 104, 116, 101, 100, 103, 101, 47, 115, 116, 114, 97, 105, 103, 104, 116, 101, 100, 103, 101, 108, 97, 119, 49, 49, 46, 71, 101, 109,
  109, 84, 101, 108, 108, 115, 32, 115, 116, 114, 97, 105, 103, 104, 116, 101, 100, 103, 101, 47, 115, 116, 114, 97, 105, 103, 104, 116, 101, 100, 103, 101, 108, 97, 119, 48, 57, 46, 84, 114,
  115, 118, 83, 111, 108, 118, 101, 115, 32, 115, 116, 114, 97, 105, 103, 104, 116, 101, 100, 103, 101, 47, 115, 116, 114, 97, 105, 103, 104, 116, 101, 100, 103, 101, 108, 97, 119, 48, 57, 46,
  84, 114, 115, 118, 66, 97, 99, 107, 119, 97, 114, 100, 32, 115, 116, 114, 97, 105, 103, 104, 116, 101, 100, 103, 101, 47, 115, 116, 114, 97, 105, 103, 104, 116, 101, 100, 103, 101, 108, 97,
  119, 48, 55, 46, 71, 101, 109, 118, 84, 117, 114, 110, 115, 32, 115, 116, 114, 97, 105, 103, 104, 116, 101, 100, 103, 101, 47, 115, 116, 114, 97, 105, 103, 104, 116, 101, 100, 103, 101, 108,
  97, 119, 48, 54, 46, 65, 120, 101, 115, 66, 97, 99, 107, 32, 115, 116, 114, 97, 105, 103, 104, 116, 101, 100, 103, 101, 47, 115, 116, 114, 97, 105, 103, 104, 116, 101, 100, 103, 101, 108,
  97, 119, 49, 49, 46, 71, 101, 109, 109, 87, 104, 111, 108, 101, 32, 115, 116, 114, 97, 105, 103, 104, 116, 101, 100, 103, 101, 47, 115, 116, 114, 97, 105, 103, 104, 116, 101, 100, 103, 101,
  108, 97, 119, 50, 50, 46, 82, 101, 115, 105, 100, 66, 111, 117, 110, 100, 115, 32, 115, 116, 114, 97, 105, 103, 104, 116, 101, 100, 103, 101, 47, 115, 116, 114, 97, 105, 103, 104, 116, 101,
  100, 103, 101, 108, 97, 119, 50, 50, 46, 82, 101, 115, 105, 100, 82, 101, 115, 116, 32, 115, 116, 114, 97, 105, 103, 104, 116, 101, 100, 103, 101, 47, 115, 116, 114, 97, 105, 103, 104, 116,
  101, 100, 103, 101, 108, 97, 119, 48, 54, 46, 65, 120, 101, 115, 83, 99, 97, 108, 101, 32, 115, 116, 114, 97, 105, 103, 104, 116, 101, 100, 103, 101, 47, 115, 116, 114, 97, 105, 103, 104,
  116, 101, 100, 103, 101, 108, 97, 119, 49, 53, 46, 69, 113, 117, 105, 108, 70, 97, 99, 116, 111, 114, 115, 32, 115, 116, 114, 97, 105, 103, 104, 116, 101, 100, 103, 101, 47, 115, 116, 114,
  97, 105, 103, 104, 116, 101, 100, 103, 101, 108, 97, 119, 50, 50, 46, 82, 101, 115, 105, 100, 84, 101, 108, 108, 115, 32, 115, 116, 114, 97, 105, 103, 104, 116, 101, 100, 103, 101, 47, 115,
  116, 114, 97, 105, 103, 104, 116, 101, 100, 103, 101, 108, 97, 119, 50, 50, 46, 82, 101, 115, 105, 100, 66, 97, 99, 107, 119, 97, 114, 100, 32, 115, 116, 114, 97, 105, 103, 104, 116, 101,
  100, 103, 101, 47, 115, 116, 114, 97, 105, 103, 104, 116, 101, 100, 103, 101, 108, 97, 119, 49, 53, 46, 69, 113, 117, 105, 108, 76, 105, 107, 101, 32, 115, 116, 114, 97, 105, 103, 104, 116,
  101, 100, 103, 101, 47, 115, 116, 114, 97, 105, 103, 104, 116, 101, 100, 103, 101, 108, 97, 119, 49, 53, 46, 69, 113, 117, 105, 108, 83, 99, 97, 108, 101, 115, 32, 115, 116, 114, 97, 105,
  103, 104, 116, 101, 100, 103, 101, 47, 115, 116, 114, 97, 105, 103, 104, 116, 101, 100, 103, 101, 108, 97, 119, 50, 48, 46, 76, 97, 99, 110, 66, 101, 108, 111, 119]
def headWords : List (List Nat) := [
  [104, 97, 114, 110, 101, 115, 115],
  [51, 102, 52, 100, 97, 51, 56, 49, 53, 101, 98, 97, 49, 97, 55, 99, 97, 51, 97, 53, 57, 98, 51, 57, 53, 55, 97, 97, 53, 56, 102, 57, 54, 102, 100, 51, 48, 56, 99, 48, 99, 51, 57, 99, 54, 57, 56, 51, 57, 48, 54, 97, 99, 49, 97, 102, 48, 98, 102, 98, 49, 100, 49, 54],
  [99, 117, 116],
  [97, 116],
  [115, 116, 114, 97, 105, 103, 104, 116, 101, 100, 103, 101, 47, 115, 116, 114, 97, 105, 103, 104, 116, 101, 100, 103, 101, 108, 97, 119, 48, 54, 46, 65, 120, 101, 115, 67, 108, 111, 115, 101],
  [115, 116, 114, 97, 105, 103, 104, 116, 101, 100, 103, 101, 47, 115, 116, 114, 97, 105, 103, 104, 116, 101, 100, 103, 101, 108, 97, 119, 48, 53, 46, 83, 117, 109, 115, 76, 105, 115, 116, 115],
  [115, 116, 114, 97, 105, 103, 104, 116, 101, 100, 103, 101, 47, 115, 116, 114, 97, 105, 103, 104, 116, 101, 100, 103, 101, 108, 97, 119, 48, 52, 46, 77, 111, 118, 101, 82, 111, 119, 115],
  [115, 116, 114, 97, 105, 103, 104, 116, 101, 100, 103, 101, 47, 115, 116, 114, 97, 105, 103, 104, 116, 101, 100, 103, 101, 108, 97, 119, 48, 56, 46, 71, 101, 114, 84, 101, 108, 108, 115],
  [115, 116, 114, 97, 105, 103, 104, 116, 101, 100, 103, 101, 47, 115, 116, 114, 97, 105, 103, 104, 116, 101, 100, 103, 101, 108, 97, 119, 48, 52, 46, 77, 111, 118, 101, 86, 101, 99, 116, 111, 114, 115],
  [115, 116, 114, 97, 105, 103, 104, 116, 101, 100, 103, 101, 47, 115, 116, 114, 97, 105, 103, 104, 116, 101, 100, 103, 101, 108, 97, 119, 48, 55, 46, 71, 101, 109, 118, 67, 108, 111, 115, 101],
  [115, 116, 114, 97, 105, 103, 104, 116, 101, 100, 103, 101, 47, 115, 116, 114, 97, 105, 103, 104, 116, 101, 100, 103, 101, 108, 97, 119, 49, 49, 46, 71, 101, 109, 109, 84, 101, 108, 108, 115],
  [115, 116, 114, 97, 105, 103, 104, 116, 101, 100, 103, 101, 47, 115, 116, 114, 97, 105, 103, 104, 116, 101, 100, 103, 101, 108, 97, 119, 48, 57, 46, 84, 114, 115, 118, 83, 111, 108, 118, 101, 115],
  [115, 116, 114, 97, 105, 103, 104, 116, 101, 100, 103, 101, 47, 115, 116, 114, 97, 105, 103, 104, 116, 101, 100, 103, 101, 108, 97, 119, 48, 57, 46, 84, 114, 115, 118, 66, 97, 99, 107, 119, 97, 114, 100],
  [115, 116, 114, 97, 105, 103, 104, 116, 101, 100, 103, 101, 47, 115, 116, 114, 97, 105, 103, 104, 116, 101, 100, 103, 101, 108, 97, 119, 48, 55, 46, 71, 101, 109, 118, 84, 117, 114, 110, 115],
  [115, 116, 114, 97, 105, 103, 104, 116, 101, 100, 103, 101, 47, 115, 116, 114, 97, 105, 103, 104, 116, 101, 100, 103, 101, 108, 97, 119, 48, 54, 46, 65, 120, 101, 115, 66, 97, 99, 107],
  [115, 116, 114, 97, 105, 103, 104, 116, 101, 100, 103, 101, 47, 115, 116, 114, 97, 105, 103, 104, 116, 101, 100, 103, 101, 108, 97, 119, 49, 49, 46, 71, 101, 109, 109, 87, 104, 111, 108, 101],
  [115, 116, 114, 97, 105, 103, 104, 116, 101, 100, 103, 101, 47, 115, 116, 114, 97, 105, 103, 104, 116, 101, 100, 103, 101, 108, 97, 119, 50, 50, 46, 82, 101, 115, 105, 100, 66, 111, 117, 110, 100, 115],
  [115, 116, 114, 97, 105, 103, 104, 116, 101, 100, 103, 101, 47, 115, 116, 114, 97, 105, 103, 104, 116, 101, 100, 103, 101, 108, 97, 119, 50, 50, 46, 82, 101, 115, 105, 100, 82, 101, 115, 116],
  [115, 116, 114, 97, 105, 103, 104, 116, 101, 100, 103, 101, 47, 115, 116, 114, 97, 105, 103, 104, 116, 101, 100, 103, 101, 108, 97, 119, 48, 54, 46, 65, 120, 101, 115, 83, 99, 97, 108, 101],
  [115, 116, 114, 97, 105, 103, 104, 116, 101, 100, 103, 101, 47, 115, 116, 114, 97, 105, 103, 104, 116, 101, 100, 103, 101, 108, 97, 119, 49, 53, 46, 69, 113, 117, 105, 108, 70, 97, 99, 116, 111, 114, 115],
  [115, 116, 114, 97, 105, 103, 104, 116, 101, 100, 103, 101, 47, 115, 116, 114, 97, 105, 103, 104, 116, 101, 100, 103, 101, 108, 97, 119, 50, 50, 46, 82, 101, 115, 105, 100, 84, 101, 108, 108, 115],
  [115, 116, 114, 97, 105, 103, 104, 116, 101, 100, 103, 101, 47, 115, 116, 114, 97, 105, 103, 104, 116, 101, 100, 103, 101, 108, 97, 119, 50, 50, 46, 82, 101, 115, 105, 100, 66, 97, 99, 107, 119, 97, 114, 100],
  [115, 116, 114, 97, 105, 103, 104, 116, 101, 100, 103, 101, 47, 115, 116, 114, 97, 105, 103, 104, 116, 101, 100, 103, 101, 108, 97, 119, 49, 53, 46, 69, 113, 117, 105, 108, 76, 105, 107, 101],
  [115, 116, 114, 97, 105, 103, 104, 116, 101, 100, 103, 101, 47, 115, 116, 114, 97, 105, 103, 104, 116, 101, 100, 103, 101, 108, 97, 119, 49, 53, 46, 69, 113, 117, 105, 108, 83, 99, 97, 108, 101, 115],
  [115, 116, 114, 97, 105, 103, 104, 116, 101, 100, 103, 101, 47, 115, 116, 114, 97, 105, 103, 104, 116, 101, 100, 103, 101, 108, 97, 119, 50, 48, 46, 76, 97, 99, 110, 66, 101, 108, 111, 119]]
def W : List (List Char) := headWords.map (·.map Char.ofNat)
theorem head_eq : Try.prog.initOrder = String.ofList (headCodes.map Char.ofNat) := by kernel_rfl
theorem head_list : Try.prog.initOrder.toList = headCodes.map Char.ofNat := by rw [head_eq, String.toList_ofList]
theorem head_words : wordsSigns (headCodes.map Char.ofNat) = W := by kernel_rfl
def cutWord : List Char := W.getD 2 []
def restWords : List (List Char) := W.drop 3
theorem head_split : behindMainWord W = cutWord :: restWords := by kernel_rfl
theorem head_behind : behindMainWord (wordsSigns Try.prog.initOrder.toList) = cutWord :: restWords := by rw [head_list, head_words]; exact head_split
theorem head_strip : stripLifts liftWords (cutWord :: restWords) = ([], cutWord :: restWords) := by kernel_rfl
theorem head_final : Try.prog.liftsFinal = false := final_cut head_behind head_strip (by kernel_rfl)
theorem head_make : Try.prog.make = some .cut := make_cut head_behind (by kernel_rfl) (by kernel_rfl)
theorem head_may : Try.prog.mayEnter = true := may_cut head_behind head_strip (by kernel_rfl) (by kernel_rfl) (by kernel_rfl) (by kernel_rfl)
end Go.Proofs.Ytcmggfpcbijcjaa
end
