/-
  Contracts: resid.check, resid.Rest.
-/
import Derived.Test.YtcmggfpcbijcjaaRest1
import Derived.Laws.EntriesVeiled
set_option linter.unusedSimpArgs false
set_option linter.unusedVariables false
open Go Go.RowKit Sedge
namespace Go.Proofs.Ytcmggfpcbijcjaa
def chkE (m : MatM) (n1 n2 : Nat) : Int := if m.good = false then 1 else if m.rows ≠ m.cols ∨ 64 < m.rows ∨ (n1 : Int) ≠ m.rows ∨ (n2 : Int) ≠ m.rows then 3 else 0
set_option maxRecDepth 100000 in
set_option maxHeartbeats 1000000 in
/-- resid.check. -/
theorem rcheck_any (m : MatM) (D : Value) (a1 a2 : Option Addr) (n1 n2 c1 c2 : Nat) (w : World) (hD : FS w D m.ws) (hwf : m.wf) :
   Calls Try.prog 166 #[.agg #[D, .int .i64 m.off, .int .i64 m.rows, .int .i64 m.cols, .int .i64 m.ld], .slice a1 n1 c1, .slice a2 n2 c2] w (fun e w' => e = .returned (.int .i64 (chkE m n1 n2)) ∧ ∃ o n, w' = ext w o n) := by
  have Hw := hid hwf
  clear hwf
  cases hg : m.good
  · have q := hid (show chkE m n1 n2 = 1 by unfold chkE; rw [if_pos hg])
    go_enter Try.func166, Try.ntmps166
    refine seq_stop ?_
    go_wp2
    refine stop_go (fun W hW => ?_)
    have s1 : w.heap.size < W.heap.size := by rw [hW]; simp only [World.size_alloc]; omega
    have b1 : ∀ i, W.cell? ⟨w.heap.size, i, none⟩ = (#[D, .int .i64 m.off, .int .i64 m.rows, .int .i64 m.cols, .int .i64 m.ld] : Array Value)[i]? := by intro i; rw [hW]; go_simp
    have g0 : Grew w W := by rw [hW]; exact (Grew.refl _).alloc _
    clear hW
    have hDW := hD.grew g0
    go_wp2_with (first | (go_at_call 130; ((with_reducible refine (good_any m _ _ ?_ Hw.out).mono ?_); (focus (first | (with_reducible assumption) | (with_reducible refine FS.ext ?_ _ _; with_reducible assumption) | (with_reducible refine IS.ext ?_ _ _; with_reducible assumption) | (refine hDu _ ?_; with_reducible assumption) | (refine hOu _ ?_; with_reducible assumption) | (refine hDa _ ?_; with_reducible assumption) | (refine hDb _ ?_; with_reducible assumption) | (refine hDc _ ?_; with_reducible assumption) | (refine hDd _ ?_; with_reducible assumption) | (refine FW.fs ?_ (by omega) _; with_reducible assumption) | (refine WS.fs ?_; with_reducible assumption) | (refine FW.fs ?_ (by omega) _; assumption) | omega | assumption)); rintro e w1 ⟨rfl, o1, n1, rfl⟩)))
    go_ret
    exact ⟨ret_int q.out.symm, by (show Grew _ _; repeat (first | (with_reducible exact Grew.refl _) | (with_reducible assumption) | (with_reducible refine Grew.ext ?_ _ _) | (with_reducible refine Grew.alloc ?_ _) | ((with_reducible refine Grew.setCell ?_ ?_ _); rotate_left; (focus (dsimp only; first | omega | (simp only [size_ext, World.size_alloc, Array.size_append]; omega)))) | (with_reducible refine Grew.drewN ?_ _) | (with_reducible refine Grew.drew ?_)))⟩
  · have h0 : ¬ m.good = false := by rw [hg]; decide
    by_cases r1 : m.rows = m.cols
    · have e1 : (m.rows != m.cols) = false := by simpa using r1
      by_cases r2 : 64 < m.rows
      · have e2 : decide (64 < m.rows) = true := by simpa using r2
        have q := hid (show chkE m n1 n2 = 3 by unfold chkE; rw [if_neg h0, if_pos (.inr (.inl r2))])
        clear r1 r2
        go_enter Try.func166, Try.ntmps166
        refine seq_stop ?_
        go_wp2
        refine stop_go (fun W hW => ?_)
        have s1 : w.heap.size < W.heap.size := by rw [hW]; simp only [World.size_alloc]; omega
        have b1 : ∀ i, W.cell? ⟨w.heap.size, i, none⟩ = (#[D, .int .i64 m.off, .int .i64 m.rows, .int .i64 m.cols, .int .i64 m.ld] : Array Value)[i]? := by intro i; rw [hW]; go_simp
        have g0 : Grew w W := by rw [hW]; exact (Grew.refl _).alloc _
        clear hW
        have hDW := hD.grew g0
        go_wp2_with (first | (go_at_call 130; ((with_reducible refine (good_any m _ _ ?_ Hw.out).mono ?_); (focus (first | (with_reducible assumption) | (with_reducible refine FS.ext ?_ _ _; with_reducible assumption) | (with_reducible refine IS.ext ?_ _ _; with_reducible assumption) | (refine hDu _ ?_; with_reducible assumption) | (refine hOu _ ?_; with_reducible assumption) | (refine hDa _ ?_; with_reducible assumption) | (refine hDb _ ?_; with_reducible assumption) | (refine hDc _ ?_; with_reducible assumption) | (refine hDd _ ?_; with_reducible assumption) | (refine FW.fs ?_ (by omega) _; with_reducible assumption) | (refine WS.fs ?_; with_reducible assumption) | (refine FW.fs ?_ (by omega) _; assumption) | omega | assumption)); rintro e w1 ⟨rfl, o1, n1, rfl⟩)))
        go_ret
        exact ⟨ret_int q.out.symm, by (show Grew _ _; repeat (first | (with_reducible exact Grew.refl _) | (with_reducible assumption) | (with_reducible refine Grew.ext ?_ _ _) | (with_reducible refine Grew.alloc ?_ _) | ((with_reducible refine Grew.setCell ?_ ?_ _); rotate_left; (focus (dsimp only; first | omega | (simp only [size_ext, World.size_alloc, Array.size_append]; omega)))) | (with_reducible refine Grew.drewN ?_ _) | (with_reducible refine Grew.drew ?_)))⟩
      · have e2 : decide (64 < m.rows) = false := by simpa using r2
        by_cases r3 : (n1 : Int) = m.rows
        · have e3 : ((n1 : Int) != m.rows) = false := by simpa using r3
          by_cases r4 : (n2 : Int) = m.rows
          · have e4 : ((n2 : Int) != m.rows) = false := by simpa using r4
            have q := hid (show chkE m n1 n2 = 0 by unfold chkE; rw [if_neg h0, if_neg (fun h => h.elim (fun h => h r1) (fun h => h.elim r2 (fun h => h.elim (fun h => h r3) (fun h => h r4))))])
            clear r1 r2 r3 r4
            go_enter Try.func166, Try.ntmps166
            refine seq_stop ?_
            go_wp2
            refine stop_go (fun W hW => ?_)
            have s1 : w.heap.size < W.heap.size := by rw [hW]; simp only [World.size_alloc]; omega
            have b1 : ∀ i, W.cell? ⟨w.heap.size, i, none⟩ = (#[D, .int .i64 m.off, .int .i64 m.rows, .int .i64 m.cols, .int .i64 m.ld] : Array Value)[i]? := by intro i; rw [hW]; go_simp
            have g0 : Grew w W := by rw [hW]; exact (Grew.refl _).alloc _
            clear hW
            have hDW := hD.grew g0
            go_wp2_with (first | (go_at_call 130; ((with_reducible refine (good_any m _ _ ?_ Hw.out).mono ?_); (focus (first | (with_reducible assumption) | (with_reducible refine FS.ext ?_ _ _; with_reducible assumption) | (with_reducible refine IS.ext ?_ _ _; with_reducible assumption) | (refine hDu _ ?_; with_reducible assumption) | (refine hOu _ ?_; with_reducible assumption) | (refine hDa _ ?_; with_reducible assumption) | (refine hDb _ ?_; with_reducible assumption) | (refine hDc _ ?_; with_reducible assumption) | (refine hDd _ ?_; with_reducible assumption) | (refine FW.fs ?_ (by omega) _; with_reducible assumption) | (refine WS.fs ?_; with_reducible assumption) | (refine FW.fs ?_ (by omega) _; assumption) | omega | assumption)); rintro e w1 ⟨rfl, o1, n1, rfl⟩)))
            go_ret
            exact ⟨ret_int q.out.symm, by (show Grew _ _; repeat (first | (with_reducible exact Grew.refl _) | (with_reducible assumption) | (with_reducible refine Grew.ext ?_ _ _) | (with_reducible refine Grew.alloc ?_ _) | ((with_reducible refine Grew.setCell ?_ ?_ _); rotate_left; (focus (dsimp only; first | omega | (simp only [size_ext, World.size_alloc, Array.size_append]; omega)))) | (with_reducible refine Grew.drewN ?_ _) | (with_reducible refine Grew.drew ?_)))⟩
          · have e4 : ((n2 : Int) != m.rows) = true := by simpa using r4
            have q := hid (show chkE m n1 n2 = 3 by unfold chkE; rw [if_neg h0, if_pos (.inr (.inr (.inr r4)))])
            clear r1 r2 r3 r4
            go_enter Try.func166, Try.ntmps166
            refine seq_stop ?_
            go_wp2
            refine stop_go (fun W hW => ?_)
            have s1 : w.heap.size < W.heap.size := by rw [hW]; simp only [World.size_alloc]; omega
            have b1 : ∀ i, W.cell? ⟨w.heap.size, i, none⟩ = (#[D, .int .i64 m.off, .int .i64 m.rows, .int .i64 m.cols, .int .i64 m.ld] : Array Value)[i]? := by intro i; rw [hW]; go_simp
            have g0 : Grew w W := by rw [hW]; exact (Grew.refl _).alloc _
            clear hW
            have hDW := hD.grew g0
            go_wp2_with (first | (go_at_call 130; ((with_reducible refine (good_any m _ _ ?_ Hw.out).mono ?_); (focus (first | (with_reducible assumption) | (with_reducible refine FS.ext ?_ _ _; with_reducible assumption) | (with_reducible refine IS.ext ?_ _ _; with_reducible assumption) | (refine hDu _ ?_; with_reducible assumption) | (refine hOu _ ?_; with_reducible assumption) | (refine hDa _ ?_; with_reducible assumption) | (refine hDb _ ?_; with_reducible assumption) | (refine hDc _ ?_; with_reducible assumption) | (refine hDd _ ?_; with_reducible assumption) | (refine FW.fs ?_ (by omega) _; with_reducible assumption) | (refine WS.fs ?_; with_reducible assumption) | (refine FW.fs ?_ (by omega) _; assumption) | omega | assumption)); rintro e w1 ⟨rfl, o1, n1, rfl⟩)))
            go_ret
            exact ⟨ret_int q.out.symm, by (show Grew _ _; repeat (first | (with_reducible exact Grew.refl _) | (with_reducible assumption) | (with_reducible refine Grew.ext ?_ _ _) | (with_reducible refine Grew.alloc ?_ _) | ((with_reducible refine Grew.setCell ?_ ?_ _); rotate_left; (focus (dsimp only; first | omega | (simp only [size_ext, World.size_alloc, Array.size_append]; omega)))) | (with_reducible refine Grew.drewN ?_ _) | (with_reducible refine Grew.drew ?_)))⟩
        · have e3 : ((n1 : Int) != m.rows) = true := by simpa using r3
          have q := hid (show chkE m n1 n2 = 3 by unfold chkE; rw [if_neg h0, if_pos (.inr (.inr (.inl r3)))])
          clear r1 r2 r3
          go_enter Try.func166, Try.ntmps166
          refine seq_stop ?_
          go_wp2
          refine stop_go (fun W hW => ?_)
          have s1 : w.heap.size < W.heap.size := by rw [hW]; simp only [World.size_alloc]; omega
          have b1 : ∀ i, W.cell? ⟨w.heap.size, i, none⟩ = (#[D, .int .i64 m.off, .int .i64 m.rows, .int .i64 m.cols, .int .i64 m.ld] : Array Value)[i]? := by intro i; rw [hW]; go_simp
          have g0 : Grew w W := by rw [hW]; exact (Grew.refl _).alloc _
          clear hW
          have hDW := hD.grew g0
          go_wp2_with (first | (go_at_call 130; ((with_reducible refine (good_any m _ _ ?_ Hw.out).mono ?_); (focus (first | (with_reducible assumption) | (with_reducible refine FS.ext ?_ _ _; with_reducible assumption) | (with_reducible refine IS.ext ?_ _ _; with_reducible assumption) | (refine hDu _ ?_; with_reducible assumption) | (refine hOu _ ?_; with_reducible assumption) | (refine hDa _ ?_; with_reducible assumption) | (refine hDb _ ?_; with_reducible assumption) | (refine hDc _ ?_; with_reducible assumption) | (refine hDd _ ?_; with_reducible assumption) | (refine FW.fs ?_ (by omega) _; with_reducible assumption) | (refine WS.fs ?_; with_reducible assumption) | (refine FW.fs ?_ (by omega) _; assumption) | omega | assumption)); rintro e w1 ⟨rfl, o1, n1, rfl⟩)))
          go_ret
          exact ⟨ret_int q.out.symm, by (show Grew _ _; repeat (first | (with_reducible exact Grew.refl _) | (with_reducible assumption) | (with_reducible refine Grew.ext ?_ _ _) | (with_reducible refine Grew.alloc ?_ _) | ((with_reducible refine Grew.setCell ?_ ?_ _); rotate_left; (focus (dsimp only; first | omega | (simp only [size_ext, World.size_alloc, Array.size_append]; omega)))) | (with_reducible refine Grew.drewN ?_ _) | (with_reducible refine Grew.drew ?_)))⟩
    · have e1 : (m.rows != m.cols) = true := by simpa using r1
      have q := hid (show chkE m n1 n2 = 3 by unfold chkE; rw [if_neg h0, if_pos (.inl r1)])
      clear r1
      go_enter Try.func166, Try.ntmps166
      refine seq_stop ?_
      go_wp2
      refine stop_go (fun W hW => ?_)
      have s1 : w.heap.size < W.heap.size := by rw [hW]; simp only [World.size_alloc]; omega
      have b1 : ∀ i, W.cell? ⟨w.heap.size, i, none⟩ = (#[D, .int .i64 m.off, .int .i64 m.rows, .int .i64 m.cols, .int .i64 m.ld] : Array Value)[i]? := by intro i; rw [hW]; go_simp
      have g0 : Grew w W := by rw [hW]; exact (Grew.refl _).alloc _
      clear hW
      have hDW := hD.grew g0
      go_wp2_with (first | (go_at_call 130; ((with_reducible refine (good_any m _ _ ?_ Hw.out).mono ?_); (focus (first | (with_reducible assumption) | (with_reducible refine FS.ext ?_ _ _; with_reducible assumption) | (with_reducible refine IS.ext ?_ _ _; with_reducible assumption) | (refine hDu _ ?_; with_reducible assumption) | (refine hOu _ ?_; with_reducible assumption) | (refine hDa _ ?_; with_reducible assumption) | (refine hDb _ ?_; with_reducible assumption) | (refine hDc _ ?_; with_reducible assumption) | (refine hDd _ ?_; with_reducible assumption) | (refine FW.fs ?_ (by omega) _; with_reducible assumption) | (refine WS.fs ?_; with_reducible assumption) | (refine FW.fs ?_ (by omega) _; assumption) | omega | assumption)); rintro e w1 ⟨rfl, o1, n1, rfl⟩)))
      go_ret
      exact ⟨ret_int q.out.symm, by (show Grew _ _; repeat (first | (with_reducible exact Grew.refl _) | (with_reducible assumption) | (with_reducible refine Grew.ext ?_ _ _) | (with_reducible refine Grew.alloc ?_ _) | ((with_reducible refine Grew.setCell ?_ ?_ _); rotate_left; (focus (dsimp only; first | omega | (simp only [size_ext, World.size_alloc, Array.size_append]; omega)))) | (with_reducible refine Grew.drewN ?_ _) | (with_reducible refine Grew.drew ?_)))⟩
def resL (m : MatM) (X Y : List Nat) : List Nat := rowsTo (fun i => Y.getD i 0) (fun s a j => fsub s (fmul a (X.getD j 0))) m.num m.cols.toNat m.rows.toNat
def rebL (m : MatM) (X Y : List Nat) : List Nat := rowsTo (fun i => fabs (Y.getD i 0)) (fun s a j => fadd s (fmul (fabs a) (fabs (X.getD j 0)))) m.num m.cols.toNat m.rows.toNat
set_option maxRecDepth 100000 in
set_option maxHeartbeats 1000000 in
/-- resid.Rest that tells an error. -/
theorem rest_no (m : MatM) (D VX VY : Value) (X Y : List Nat) (w : World) (hD : FS w D m.ws) (hX : FS w VX X) (hY : FS w VY Y) (hwf : m.wf) (hne : chkE m X.length Y.length ≠ 0) :
   Calls Try.prog 94 #[.agg #[D, .int .i64 m.off, .int .i64 m.rows, .int .i64 m.cols, .int .i64 m.ld], VX, VY] w (fun e w' => e = .returned (.tuple #[.slice none 0 0, .slice none 0 0, .int .i64 (chkE m X.length Y.length)]) ∧ ∃ o n, w' = ext w o n) := by
  obtain ⟨aX, cX, rfl⟩ := hX.shape
  obtain ⟨aY, cY, rfl⟩ := hY.shape
  obtain ⟨E, hE⟩ : ∃ E, E = chkE m X.length Y.length := ⟨_, rfl⟩
  have hck : ∀ w', FS w' D m.ws → Calls Try.prog 166 #[.agg #[D, .int .i64 m.off, .int .i64 m.rows, .int .i64 m.cols, .int .i64 m.ld], .slice aX X.length cX, .slice aY Y.length cY] w' (fun e w2 => e = .returned (.int .i64 E) ∧ ∃ o n, w2 = ext w' o n) := fun w' h => by
    rw [hE]; exact rcheck_any m D aX aY _ _ cX cY w' h hwf
  rw [← hE] at hne ⊢
  have d1 : (E != 0) = true := by simpa using hne
  clear hE hne hwf
  go_enter Try.func94, Try.ntmps94
  refine seq_stop ?_
  go_wp2
  refine stop_go (fun W hW => ?_)
  have s1 : w.heap.size < W.heap.size := by rw [hW]; simp only [World.size_alloc]; omega
  have b1 : ∀ i, W.cell? ⟨w.heap.size, i, none⟩ = (#[D, .int .i64 m.off, .int .i64 m.rows, .int .i64 m.cols, .int .i64 m.ld] : Array Value)[i]? := by intro i; rw [hW]; go_simp
  have s2 : w.heap.size + 1 < W.heap.size := by rw [hW]; simp only [World.size_alloc]; omega
  have b2 : ∀ i, W.cell? ⟨w.heap.size + 1, i, none⟩ = (#[.slice aX X.length cX] : Array Value)[i]? := by intro i; rw [hW]; go_simp
  have s3 : w.heap.size + 1 + 1 < W.heap.size := by rw [hW]; simp only [World.size_alloc]; omega
  have b3 : ∀ i, W.cell? ⟨w.heap.size + 1 + 1, i, none⟩ = (#[.slice aY Y.length cY] : Array Value)[i]? := by intro i; rw [hW]; go_simp
  have g0 : Grew w W := by rw [hW]; exact (((Grew.refl _).alloc _).alloc _).alloc _
  clear hW
  have hDW := hD.grew g0
  go_wp2_with (first | (go_at_call 166; ((with_reducible refine (hck _ ?_).mono ?_); (focus (first | (with_reducible assumption) | (with_reducible refine FS.ext ?_ _ _; with_reducible assumption) | (with_reducible refine IS.ext ?_ _ _; with_reducible assumption) | (refine hDu _ ?_; with_reducible assumption) | (refine hOu _ ?_; with_reducible assumption) | (refine hDa _ ?_; with_reducible assumption) | (refine hDb _ ?_; with_reducible assumption) | (refine hDc _ ?_; with_reducible assumption) | (refine hDd _ ?_; with_reducible assumption) | (refine FW.fs ?_ (by omega) _; with_reducible assumption) | (refine WS.fs ?_; with_reducible assumption) | (refine FW.fs ?_ (by omega) _; assumption) | omega | assumption)); rintro e w1 ⟨rfl, o1, n1, rfl⟩)))
  refine bodyPost_ret (v := .tuple #[.slice none 0 0, .slice none 0 0, .int .i64 E]) (by simp [results, Try.results94, go_sem, *]) rfl ?_
  exact ⟨rfl, by (show Grew _ _; repeat (first | (with_reducible exact Grew.refl _) | (with_reducible assumption) | (with_reducible refine Grew.ext ?_ _ _) | (with_reducible refine Grew.alloc ?_ _) | ((with_reducible refine Grew.setCell ?_ ?_ _); rotate_left; (focus (dsimp only; first | omega | (simp only [size_ext, World.size_alloc, Array.size_append]; omega)))) | (with_reducible refine Grew.drewN ?_ _) | (with_reducible refine Grew.drew ?_)))⟩
set_option maxRecDepth 100000 in
set_option maxHeartbeats 2000000 in
/-- resid.Rest. -/
theorem rest_any (m : MatM) (D VX VY : Value) (X Y : List Nat) (w : World) (hD : FS w D m.ws) (hX : FS w VX X) (hY : FS w VY Y) (hm : m.good = true) (hwf : m.wf) (hl : m.ws.length ≤ 1000000) (hrc : m.rows = m.cols) (hr : m.rows ≤ 64) (hnX : (X.length : Int) = m.rows) (hnY : (Y.length : Int) = m.rows) :
   Calls Try.prog 94 #[.agg #[D, .int .i64 m.off, .int .i64 m.rows, .int .i64 m.cols, .int .i64 m.ld], VX, VY] w (fun e w' => ∃ v1 v2, e = .returned (.tuple #[v1, v2, .int .i64 0]) ∧ OwnF 22 w' w.heap.size v1 (resL m X Y) ∧ OwnF 22 w' w.heap.size v2 (rebL m X Y) ∧ ∃ o n, w' = ext w o n) := by
  obtain ⟨aX, cX, rfl⟩ := hX.shape
  obtain ⟨aY, cY, rfl⟩ := hY.shape
  have hck : ∀ w', FS w' D m.ws → Calls Try.prog 166 #[.agg #[D, .int .i64 m.off, .int .i64 m.rows, .int .i64 m.cols, .int .i64 m.ld], .slice aX X.length cX, .slice aY Y.length cY] w' (fun e w2 => e = .returned (.int .i64 0) ∧ ∃ o n, w2 = ext w' o n) := fun w' h => by
    have h2 := rcheck_any m D aX aY X.length Y.length cX cY w' h hwf
    rw [show chkE m X.length Y.length = 0 by unfold chkE; rw [if_neg (by rw [hm]; decide), if_neg (by omega)]] at h2
    exact h2
  have hra : ∀ T1 T2 w', FS w' D m.ws → FS w' (.slice aX X.length cX) X → FS w' (.slice aY Y.length cY) Y → (∀ i, w'.cell? ⟨T1, i, none⟩ = (#[.slice aX X.length cX] : Array Value)[i]?) → (∀ i, w'.cell? ⟨T2, i, none⟩ = (#[.slice aY Y.length cY] : Array Value)[i]?) → T1 < w'.heap.size → T2 < w'.heap.size →
      Calls Try.prog 171 #[.agg #[.func (.func 167) #[] #[.pointer (some ⟨T2, 0, none⟩)], .func (.func 168) #[] #[.pointer (some ⟨T1, 0, none⟩)]], .agg #[D, .int .i64 m.off, .int .i64 m.rows, .int .i64 m.cols, .int .i64 m.ld]] w' (fun e w2 => ∃ v, e = .returned v ∧ OwnF 22 w2 w'.heap.size v (resL m X Y) ∧ ∃ o n, w2 = ext w' o n) := fun T1 T2 w' h1 h2 h3 h4 h5 h6 h7 =>
    rowsA_any _ _ m D _ _ w' h1 hm hwf hl (by omega) (by omega) (fun i w2 hi hg => rc1_any i T2 _ Y w2 (fun k => (hg.cell h7).trans (h5 k)) (h3.grew hg) (by omega)) (fun s S a A j w2 hs ha hj hg => rc2_any s S a A j T1 _ X w2 hs ha (fun k => (hg.cell h6).trans (h4 k)) (h2.grew hg) (by omega))
  have hrb : ∀ T1 T2 w', FS w' D m.ws → FS w' (.slice aX X.length cX) X → FS w' (.slice aY Y.length cY) Y → (∀ i, w'.cell? ⟨T1, i, none⟩ = (#[.slice aX X.length cX] : Array Value)[i]?) → (∀ i, w'.cell? ⟨T2, i, none⟩ = (#[.slice aY Y.length cY] : Array Value)[i]?) → T1 < w'.heap.size → T2 < w'.heap.size →
      Calls Try.prog 171 #[.agg #[.func (.func 169) #[] #[.pointer (some ⟨T2, 0, none⟩)], .func (.func 170) #[] #[.pointer (some ⟨T1, 0, none⟩)]], .agg #[D, .int .i64 m.off, .int .i64 m.rows, .int .i64 m.cols, .int .i64 m.ld]] w' (fun e w2 => ∃ v, e = .returned v ∧ OwnF 22 w2 w'.heap.size v (rebL m X Y) ∧ ∃ o n, w2 = ext w' o n) := fun T1 T2 w' h1 h2 h3 h4 h5 h6 h7 =>
    rowsB_any _ _ m D _ _ w' h1 hm hwf hl (by omega) (by omega) (fun i w2 hi hg => rc3_any i T2 _ Y w2 (fun k => (hg.cell h7).trans (h5 k)) (h3.grew hg) (by omega)) (fun s S a A j w2 hs ha hj hg => rc4_any s S a A j T1 _ X w2 hs ha (fun k => (hg.cell h6).trans (h4 k)) (by have := hg.below.size; omega) (h2.grew hg) (by omega))
  clear hwf hm hrc hr hnX hnY
  have hmf := hmf
  go_enter Try.func94, Try.ntmps94
  refine seq_stop ?_
  go_wp2
  refine stop_go (fun W hW => ?_)
  have s1 : w.heap.size < W.heap.size := by rw [hW]; simp only [World.size_alloc]; omega
  have b1 : ∀ i, W.cell? ⟨w.heap.size, i, none⟩ = (#[D, .int .i64 m.off, .int .i64 m.rows, .int .i64 m.cols, .int .i64 m.ld] : Array Value)[i]? := by intro i; rw [hW]; go_simp
  have s2 : w.heap.size + 1 < W.heap.size := by rw [hW]; simp only [World.size_alloc]; omega
  have b2 : ∀ i, W.cell? ⟨w.heap.size + 1, i, none⟩ = (#[.slice aX X.length cX] : Array Value)[i]? := by intro i; rw [hW]; go_simp
  have s3 : w.heap.size + 1 + 1 < W.heap.size := by rw [hW]; simp only [World.size_alloc]; omega
  have b3 : ∀ i, W.cell? ⟨w.heap.size + 1 + 1, i, none⟩ = (#[.slice aY Y.length cY] : Array Value)[i]? := by intro i; rw [hW]; go_simp
  have g0 : Grew w W := by rw [hW]; exact (((Grew.refl _).alloc _).alloc _).alloc _
  clear hW
  have hDW := hD.grew g0
  have hXW := hX.grew g0
  have hYW := hY.grew g0
  have z0 := g0.below.size
  go_wp2_with (first | (go_at_call 166; ((with_reducible refine (hck _ ?_).mono ?_); (focus (first | (with_reducible assumption) | (with_reducible refine FS.ext ?_ _ _; with_reducible assumption) | (with_reducible refine IS.ext ?_ _ _; with_reducible assumption) | (refine hDu _ ?_; with_reducible assumption) | (refine hOu _ ?_; with_reducible assumption) | (refine hDa _ ?_; with_reducible assumption) | (refine hDb _ ?_; with_reducible assumption) | (refine hDc _ ?_; with_reducible assumption) | (refine hDd _ ?_; with_reducible assumption) | (refine FW.fs ?_ (by omega) _; with_reducible assumption) | (refine WS.fs ?_; with_reducible assumption) | (refine FW.fs ?_ (by omega) _; assumption) | omega | assumption)); rintro e w1 ⟨rfl, o1, n1, rfl⟩)))
  refine name_any (fun V hV => ?_)
  have gV : Grew W V := by rw [← hV]; (show Grew _ _; repeat (first | (with_reducible exact Grew.refl _) | (with_reducible assumption) | (with_reducible refine Grew.ext ?_ _ _) | (with_reducible refine Grew.alloc ?_ _) | ((with_reducible refine Grew.setCell ?_ ?_ _); rotate_left; (focus (dsimp only; first | omega | (simp only [size_ext, World.size_alloc, Array.size_append]; omega)))) | (with_reducible refine Grew.drewN ?_ _) | (with_reducible refine Grew.drew ?_)))
  have zV : W.heap.size + o1.size + 1 < V.heap.size := by rw [← hV]; simp only [World.size_alloc, size_ext]; omega
  have c1 : ∀ i, V.cell? ⟨W.heap.size + o1.size, i, none⟩ = (#[.func (.func 167) #[] #[.pointer (some ⟨w.heap.size + 1 + 1, 0, none⟩)], .func (.func 168) #[] #[.pointer (some ⟨w.heap.size + 1, 0, none⟩)]] : Array Value)[i]? := by subst hV; intro i; go_simp
  have c2 : ∀ i, V.cell? ⟨W.heap.size + o1.size + 1, i, none⟩ = (#[.func (.func 169) #[] #[.pointer (some ⟨w.heap.size + 1 + 1, 0, none⟩)], .func (.func 170) #[] #[.pointer (some ⟨w.heap.size + 1, 0, none⟩)]] : Array Value)[i]? := by subst hV; intro i; go_simp
  have c3 : ∀ i, V.cell? ⟨w.heap.size, i, none⟩ = (#[D, .int .i64 m.off, .int .i64 m.rows, .int .i64 m.cols, .int .i64 m.ld] : Array Value)[i]? := fun i => (gV.cell s1).trans (b1 i)
  have gw : Grew w V := Grew.trans g0 gV
  have kU : W.heap.size + o1.size < V.heap.size := by omega
  have kw : w.heap.size < V.heap.size := by omega
  have hra' : ∀ w', Grew V w' → Calls Try.prog 171 #[.agg #[.func (.func 167) #[] #[.pointer (some ⟨w.heap.size + 1 + 1, 0, none⟩)], .func (.func 168) #[] #[.pointer (some ⟨w.heap.size + 1, 0, none⟩)]], .agg #[D, .int .i64 m.off, .int .i64 m.rows, .int .i64 m.cols, .int .i64 m.ld]] w' (fun e w2 => ∃ v, e = .returned v ∧ OwnF 22 w2 w.heap.size v (resL m X Y) ∧ ∃ o n, w2 = ext w' o n) := fun w' hg => by
    have gW := Grew.trans gV hg
    have zz := (Grew.trans gw hg).below.size
    have zW := gW.below.size
    refine (hra (w.heap.size + 1) (w.heap.size + 1 + 1) w' (hDW.grew gW) (hXW.grew gW) (hYW.grew gW) (fun i => (gW.cell s2).trans (b2 i)) (fun i => (gW.cell s3).trans (b3 i)) (by omega) (by omega)).mono fun e w2 hh => ?_
    obtain ⟨v, h1, h2, h3⟩ := hh
    exact ⟨v, h1, ownF_mono h2 zz, h3⟩
  have hrb' : ∀ w', Grew V w' → Calls Try.prog 171 #[.agg #[.func (.func 169) #[] #[.pointer (some ⟨w.heap.size + 1 + 1, 0, none⟩)], .func (.func 170) #[] #[.pointer (some ⟨w.heap.size + 1, 0, none⟩)]], .agg #[D, .int .i64 m.off, .int .i64 m.rows, .int .i64 m.cols, .int .i64 m.ld]] w' (fun e w2 => ∃ v, e = .returned v ∧ OwnF 22 w2 w.heap.size v (rebL m X Y) ∧ ∃ o n, w2 = ext w' o n) := fun w' hg => by
    have gW := Grew.trans gV hg
    have zz := (Grew.trans gw hg).below.size
    have zW := gW.below.size
    refine (hrb (w.heap.size + 1) (w.heap.size + 1 + 1) w' (hDW.grew gW) (hXW.grew gW) (hYW.grew gW) (fun i => (gW.cell s2).trans (b2 i)) (fun i => (gW.cell s3).trans (b3 i)) (by omega) (by omega)).mono fun e w2 hh => ?_
    obtain ⟨v, h1, h2, h3⟩ := hh
    exact ⟨v, h1, ownF_mono h2 zz, h3⟩
  obtain ⟨U, hU⟩ : ∃ U, U = W.heap.size + o1.size := ⟨_, rfl⟩
  rw [← hU] at c1 c2 zV kU
  simp only [← hU]
  clear hra hrb hV hU b1 b2 b3 hck
  refine wp_region_R (Grew V) [] [(0,0), (0,1), (0,3), (0,4), (1,2), (1,5), (0,6), (0,7), (0,8)] (by kernel_rfl) (by kernel_rfl) (fun _ _ _ _ h _ => h) (by first | exact ⟨_, _, ext_drew⟩ | exact ⟨_, _, drew_ext0⟩) ?_
  go_wp2_with (first | ((with_reducible refine wpR_id ?_); first | (refine wpR_take (v := ?_) rfl rfl ?_ ?_; rotate_left; (focus (rintro w' ⟨o', n', rfl⟩; go_simp; try with_reducible rfl)); simp only [Act.put, List.setIfInBounds_toArray, List.set_cons_zero, List.set_cons_succ]) | (refine wpR_pure (v := ?_) rfl rfl ?_ ?_; rotate_left; (focus (intro w'; go_simp; try with_reducible rfl)); simp only [Act.put, List.setIfInBounds_toArray, List.set_cons_zero, List.set_cons_succ]) | (refine wpR_takeG (v := ?_) rfl rfl rfl rfl rfl ?_ ?_; rotate_left; (focus (rintro w' ⟨o', n', rfl⟩; go_simp; try with_reducible rfl)); simp only [Act.put, List.setIfInBounds_toArray, List.set_cons_zero, List.set_cons_succ]) | (refine wpR_skip rfl rfl rfl rfl rfl rfl ?_; simp only [Act.put, List.setIfInBounds_toArray, List.set_cons_zero, List.set_cons_succ]) | (refine wpR_skipU rfl rfl rfl rfl rfl ?_; simp only [Act.put, List.setIfInBounds_toArray, List.set_cons_zero, List.set_cons_succ]) | (refine wpR_do rfl rfl (fun K hK => ?_)) | (refine wpR_doG rfl rfl rfl rfl rfl (fun K hK => ?_)) | (refine wpR_last rfl rfl (fun K hK => ?_)) | (refine wpR_nil ?_)) | ((with_reducible refine wpR_go ?_ ?_); (focus (show Grew _ _; repeat (first | (with_reducible exact Grew.refl _) | (with_reducible assumption) | (with_reducible refine Grew.ext ?_ _ _) | (with_reducible refine Grew.alloc ?_ _) | ((with_reducible refine Grew.setCell ?_ ?_ _); rotate_left; (focus (dsimp only; first | omega | (simp only [size_ext, World.size_alloc, Array.size_append]; omega)))) | (with_reducible refine Grew.drewN ?_ _) | (with_reducible refine Grew.drew ?_))))) | ((with_reducible refine upon_id ?_); refine upon_fop rfl (by assumption) (by assumption) ?_; intro rr nn hr) | (go_at_call 171; ((with_reducible refine (hra' _ (by (show Grew _ _; repeat (first | (with_reducible exact Grew.refl _) | (with_reducible assumption) | (with_reducible refine Grew.ext ?_ _ _) | (with_reducible refine Grew.alloc ?_ _) | ((with_reducible refine Grew.setCell ?_ ?_ _); rotate_left; (focus (dsimp only; first | omega | (simp only [size_ext, World.size_alloc, Array.size_append]; omega)))) | (with_reducible refine Grew.drewN ?_ _) | (with_reducible refine Grew.drew ?_))))).mono ?_); rintro e w1 ⟨v1, rfl, hv1, o2, n2, rfl⟩)) | (go_at_call 171; ((with_reducible refine (hrb' _ (by (show Grew _ _; repeat (first | (with_reducible exact Grew.refl _) | (with_reducible assumption) | (with_reducible refine Grew.ext ?_ _ _) | (with_reducible refine Grew.alloc ?_ _) | ((with_reducible refine Grew.setCell ?_ ?_ _); rotate_left; (focus (dsimp only; first | omega | (simp only [size_ext, World.size_alloc, Array.size_append]; omega)))) | (with_reducible refine Grew.drewN ?_ _) | (with_reducible refine Grew.drew ?_))))).mono ?_); rintro e w1 ⟨v2, rfl, hv2, o3, n3, rfl⟩)))
  refine bodyPost_ret (v := .tuple #[v1, v2, .int .i64 0]) (by simp [results, Try.results94, go_sem, *]) rfl ?_
  have hv1' := hv1.ext o3 n3
  simp only [ext_ext] at hv1' hv2
  exact ⟨v1, v2, rfl, hv1', hv2, Grew.trans gw (by (show Grew _ _; repeat (first | (with_reducible exact Grew.refl _) | (with_reducible assumption) | (with_reducible refine Grew.ext ?_ _ _) | (with_reducible refine Grew.alloc ?_ _) | ((with_reducible refine Grew.setCell ?_ ?_ _); rotate_left; (focus (dsimp only; first | omega | (simp only [size_ext, World.size_alloc, Array.size_append]; omega)))) | (with_reducible refine Grew.drewN ?_ _) | (with_reducible refine Grew.drew ?_))))⟩
end Go.Proofs.Ytcmggfpcbijcjaa
