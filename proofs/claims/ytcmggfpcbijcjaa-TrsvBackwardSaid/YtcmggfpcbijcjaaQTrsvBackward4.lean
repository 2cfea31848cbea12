/-
  Texts laid one behind the other (a claim has at most 60 files): Trsv2, Trsv3, TrsvLaw, TrsvLaw2, Trsv4, Trsv5, Trsv6, Trsv7, Clear.
-/
import Derived.Test.YtcmggfpcbijcjaaQTrsvBackward1
import Derived.Test.YtcmggfpcbijcjaaQTrsvBackward2
import Derived.Test.YtcmggfpcbijcjaaQTrsvBackward3
section
/-
  Contracts: trsv.zero; the system's num, at, less.
-/
set_option linter.unusedSimpArgs false
set_option linter.unusedVariables false
open Go Go.RowKit Sedge
namespace Go.Proofs.Ytcmggfpcbijcjaa
def feq0 (x : Nat) : Bool := D64.order x 0 == some .eq
def zeroTo (k : Int) (x : MatM) (n : Nat) : Bool := (decide (k = 2) || decide (k = 4)) && (List.range n).any fun i => feq0 (x.num i i)
theorem zeroTo_succ (k : Int) (x : MatM) (n : Nat) : zeroTo k x (n + 1) = (zeroTo k x n || ((decide (k = 2) || decide (k = 4)) && feq0 (x.num n n))) := by
  unfold zeroTo; rw [List.range_succ, List.any_append]
  cases (decide (k = 2) || decide (k = 4)) <;> simp
theorem zeroTo_mono {k : Int} {x : MatM} {m n : Nat} (h : zeroTo k x m = true) (hmn : m ≤ n) : zeroTo k x n = true := by
  unfold zeroTo at *
  simp only [Bool.and_eq_true, List.any_eq_true, List.mem_range] at *
  obtain ⟨h1, t, h2, h3⟩ := h
  exact ⟨h1, t, by omega, h3⟩
set_option maxRecDepth 100000 in
set_option maxHeartbeats 1000000 in
/-- trsv.zero. -/
theorem zero_any (k : Int) (x : MatM) (D : Value) (w : World) (hD : FS w D x.ws) (hx : x.good = true) (hwf : x.wf) (hsq : x.rows = x.cols) (hr : x.rows ≤ 1000) (hl : x.ws.length ≤ 1000000) :
   Calls Try.prog 153 #[.int .i64 k, .agg #[D, .int .i64 x.off, .int .i64 x.rows, .int .i64 x.cols, .int .i64 x.ld]] w (fun e w' => e = .returned (.bool (zeroTo k x x.rows.toNat)) ∧ ∃ o n, w' = ext w o n) := by
  have hn := x.good_n hx
  have Hsq := hid hsq
  have hat : ∀ i : Nat, (i : Int) < x.rows → ∀ w', FS w' D x.ws → Calls Try.prog 186 #[.agg #[D, .int .i64 x.off, .int .i64 x.rows, .int .i64 x.cols, .int .i64 x.ld], .int .i64 i, .int .i64 i] w' (fun e w2 => ∃ b, e = .returned (.float .f64 b) ∧ IsF b (x.num i i) ∧ ∃ o n, w2 = ext w' o n) := fun i hi w' h => vat_any x D i i w' h hx hwf hi (by have := Hsq.out; omega) hl
  clear hx hwf hsq
  by_cases hk : k = 2 ∨ k = 4
  · have hkk : (decide (k = 2) || decide (k = 4)) = true := by simpa using hk
    have Hk := hid hkk
    go_enter Try.func153, Try.ntmps153
    refine seq_stop ?_
    go_wp2
    refine stop_go (fun W hW => ?_)
    have s1 : w.heap.size < W.heap.size := by rw [hW]; simp only [World.size_alloc]; omega
    have b1 : ∀ i, W.cell? ⟨w.heap.size, i, none⟩ = (#[D, .int .i64 x.off, .int .i64 x.rows, .int .i64 x.cols, .int .i64 x.ld] : Array Value)[i]? := by intro i; rw [hW]; go_simp
    have g0 : Grew w W := by rw [hW]; exact (Grew.refl _).alloc _
    clear hW
    have hDW := hD.grew g0
    go_wp2
    go_loopw [8] (fun c wr => ∃ (i : Nat) (o : Array Obj) (n : Nat), (i : Int) ≤ x.rows ∧ c = .int .i64 i ∧ wr = ext W o n ∧ zeroTo k x i = false) (fun c _ => x.rows.toNat - (intOf c).toNat)
    case atStart => exact ⟨0, #[], _, hn.1, rfl, ext_zero.symm, by simp [zeroTo]⟩
    case round =>
      obtain ⟨i, o2, n2, hi, rfl, hwr, hz⟩ := hrel
      subst hwr
      have Hz := hid hz
      clear hz
      by_cases hlt : (i : Int) < x.rows
      · have hS := hid (zeroTo_succ k x i)
        have hlt' := hid hlt
        have hati := hat i hlt
        clear hat
        cases hz : feq0 (x.num i i)
        · have h1 : zeroTo k x (i + 1) = false := by rw [hS.out, Hz.out, hz]; simp
          have H1 := hid h1
          clear h1
          rcases hk with hk2 | hk4
          · have d1 : (k == 2) = true := by simpa using hk2
            clear hk2 hkk
            go_wp2_with (first | (go_at_call 186; ((with_reducible refine (hati _ ?_).mono ?_); (focus (first | (with_reducible assumption) | (with_reducible refine FS.ext ?_ _ _; with_reducible assumption) | (with_reducible refine IS.ext ?_ _ _; with_reducible assumption) | (refine hDu _ ?_; with_reducible assumption) | (refine hOu _ ?_; with_reducible assumption) | (refine hDa _ ?_; with_reducible assumption) | (refine hDb _ ?_; with_reducible assumption) | (refine hDc _ ?_; with_reducible assumption) | (refine hDd _ ?_; with_reducible assumption) | (refine FW.fs ?_ (by omega) _; with_reducible assumption) | (refine WS.fs ?_; with_reducible assumption) | (refine FW.fs ?_ (by omega) _; assumption) | omega | assumption)); rintro e w1 ⟨b, rfl, hf, o3, n3, rfl⟩; (have hz' : (FloatKind.f64.format.order b 0 == some Ordering.eq) = false := by rw [← hz]; unfold feq0; rw [← hf.order isF_zero]; rfl))))
            go_roundw
            case rel => exact ⟨i + 1, _, _, by have := hlt'.out; omega, by go_num, rfl, H1.out⟩
            case measure => (have := hlt'.out; simp [intOf]; omega)
          · have d1 : (k == 2) = false := by rw [beq_eq_false_iff_ne]; omega
            have d2 : (k == 4) = true := by simpa using hk4
            clear hk4 hkk
            go_wp2_with (first | (go_at_call 186; ((with_reducible refine (hati _ ?_).mono ?_); (focus (first | (with_reducible assumption) | (with_reducible refine FS.ext ?_ _ _; with_reducible assumption) | (with_reducible refine IS.ext ?_ _ _; with_reducible assumption) | (refine hDu _ ?_; with_reducible assumption) | (refine hOu _ ?_; with_reducible assumption) | (refine hDa _ ?_; with_reducible assumption) | (refine hDb _ ?_; with_reducible assumption) | (refine hDc _ ?_; with_reducible assumption) | (refine hDd _ ?_; with_reducible assumption) | (refine FW.fs ?_ (by omega) _; with_reducible assumption) | (refine WS.fs ?_; with_reducible assumption) | (refine FW.fs ?_ (by omega) _; assumption) | omega | assumption)); rintro e w1 ⟨b, rfl, hf, o3, n3, rfl⟩; (have hz' : (FloatKind.f64.format.order b 0 == some Ordering.eq) = false := by rw [← hz]; unfold feq0; rw [← hf.order isF_zero]; rfl))))
            go_roundw
            case rel => exact ⟨i + 1, _, _, by have := hlt'.out; omega, by go_num, rfl, H1.out⟩
            case measure => (have := hlt'.out; simp [intOf]; omega)
        · have h1 : zeroTo k x (i + 1) = true := by rw [hS.out, Hk.out, hz]; simp
          have q := hid (zeroTo_mono h1 (show i + 1 ≤ x.rows.toNat by omega))
          clear h1
          rcases hk with hk2 | hk4
          · have d1 : (k == 2) = true := by simpa using hk2
            clear hk2 hkk
            go_wp2_with (first | (go_at_call 186; ((with_reducible refine (hati _ ?_).mono ?_); (focus (first | (with_reducible assumption) | (with_reducible refine FS.ext ?_ _ _; with_reducible assumption) | (with_reducible refine IS.ext ?_ _ _; with_reducible assumption) | (refine hDu _ ?_; with_reducible assumption) | (refine hOu _ ?_; with_reducible assumption) | (refine hDa _ ?_; with_reducible assumption) | (refine hDb _ ?_; with_reducible assumption) | (refine hDc _ ?_; with_reducible assumption) | (refine hDd _ ?_; with_reducible assumption) | (refine FW.fs ?_ (by omega) _; with_reducible assumption) | (refine WS.fs ?_; with_reducible assumption) | (refine FW.fs ?_ (by omega) _; assumption) | omega | assumption)); rintro e w1 ⟨b, rfl, hf, o3, n3, rfl⟩; (have hz' : (FloatKind.f64.format.order b 0 == some Ordering.eq) = true := by rw [← hz]; unfold feq0; rw [← hf.order isF_zero]; rfl))))
            go_ret
            exact ⟨ret_bool q.out.symm, by (show Grew _ _; repeat (first | (with_reducible exact Grew.refl _) | (with_reducible assumption) | (with_reducible exact Grew.same_o) | (with_reducible exact Grew.app_o) | (with_reducible refine Grew.ext ?_ _ _) | (with_reducible refine Grew.alloc ?_ _) | ((with_reducible refine Grew.setCell ?_ ?_ _); rotate_left; (focus (dsimp only; first | omega | (simp only [size_ext, World.size_alloc, Array.size_append]; omega)))) | (with_reducible refine Grew.drewN ?_ _) | (with_reducible refine Grew.drew ?_)))⟩
          · have d1 : (k == 2) = false := by rw [beq_eq_false_iff_ne]; omega
            have d2 : (k == 4) = true := by simpa using hk4
            clear hk4 hkk
            go_wp2_with (first | (go_at_call 186; ((with_reducible refine (hati _ ?_).mono ?_); (focus (first | (with_reducible assumption) | (with_reducible refine FS.ext ?_ _ _; with_reducible assumption) | (with_reducible refine IS.ext ?_ _ _; with_reducible assumption) | (refine hDu _ ?_; with_reducible assumption) | (refine hOu _ ?_; with_reducible assumption) | (refine hDa _ ?_; with_reducible assumption) | (refine hDb _ ?_; with_reducible assumption) | (refine hDc _ ?_; with_reducible assumption) | (refine hDd _ ?_; with_reducible assumption) | (refine FW.fs ?_ (by omega) _; with_reducible assumption) | (refine WS.fs ?_; with_reducible assumption) | (refine FW.fs ?_ (by omega) _; assumption) | omega | assumption)); rintro e w1 ⟨b, rfl, hf, o3, n3, rfl⟩; (have hz' : (FloatKind.f64.format.order b 0 == some Ordering.eq) = true := by rw [← hz]; unfold feq0; rw [← hf.order isF_zero]; rfl))))
            go_ret
            exact ⟨ret_bool q.out.symm, by (show Grew _ _; repeat (first | (with_reducible exact Grew.refl _) | (with_reducible assumption) | (with_reducible exact Grew.same_o) | (with_reducible exact Grew.app_o) | (with_reducible refine Grew.ext ?_ _ _) | (with_reducible refine Grew.alloc ?_ _) | ((with_reducible refine Grew.setCell ?_ ?_ _); rotate_left; (focus (dsimp only; first | omega | (simp only [size_ext, World.size_alloc, Array.size_append]; omega)))) | (with_reducible refine Grew.drewN ?_ _) | (with_reducible refine Grew.drew ?_)))⟩
      · have q := hid (show zeroTo k x x.rows.toNat = false by rw [show x.rows.toNat = i by omega]; exact Hz.out)
        clear hk hkk
        go_wp2
        go_ret
        exact ⟨ret_bool q.out.symm, by (show Grew _ _; repeat (first | (with_reducible exact Grew.refl _) | (with_reducible assumption) | (with_reducible exact Grew.same_o) | (with_reducible exact Grew.app_o) | (with_reducible refine Grew.ext ?_ _ _) | (with_reducible refine Grew.alloc ?_ _) | ((with_reducible refine Grew.setCell ?_ ?_ _); rotate_left; (focus (dsimp only; first | omega | (simp only [size_ext, World.size_alloc, Array.size_append]; omega)))) | (with_reducible refine Grew.drewN ?_ _) | (with_reducible refine Grew.drew ?_)))⟩
  · have q := hid (show zeroTo k x x.rows.toNat = false by unfold zeroTo; rw [show (decide (k = 2) || decide (k = 4)) = false by simpa using hk]; rfl)
    have d1 : (k == 2) = false := by rw [beq_eq_false_iff_ne]; omega
    have d2 : (k == 4) = false := by rw [beq_eq_false_iff_ne]; omega
    clear hk hat
    go_enter Try.func153, Try.ntmps153
    refine seq_stop ?_
    go_wp2
    refine stop_go (fun W hW => ?_)
    have s1 : w.heap.size < W.heap.size := by rw [hW]; simp only [World.size_alloc]; omega
    have b1 : ∀ i, W.cell? ⟨w.heap.size, i, none⟩ = (#[D, .int .i64 x.off, .int .i64 x.rows, .int .i64 x.cols, .int .i64 x.ld] : Array Value)[i]? := by intro i; rw [hW]; go_simp
    have g0 : Grew w W := by rw [hW]; exact (Grew.refl _).alloc _
    clear hW
    go_wp2
    go_loopw [8] (fun c wr => ∃ (i : Nat) (o : Array Obj) (n : Nat), (i : Int) ≤ x.rows ∧ c = .int .i64 i ∧ wr = ext W o n) (fun c _ => x.rows.toNat - (intOf c).toNat)
    case atStart => exact ⟨0, #[], _, hn.1, rfl, ext_zero.symm⟩
    case round =>
      obtain ⟨i, o2, n2, hi, rfl, hwr⟩ := hrel
      subst hwr
      by_cases hlt : (i : Int) < x.rows
      · go_wp2
        go_roundw
        case rel => exact ⟨i + 1, _, _, by omega, by go_num, rfl⟩
        case measure => simp [intOf]; omega
      · go_wp2
        go_ret
        exact ⟨ret_bool q.out.symm, by (show Grew _ _; repeat (first | (with_reducible exact Grew.refl _) | (with_reducible assumption) | (with_reducible exact Grew.same_o) | (with_reducible exact Grew.app_o) | (with_reducible refine Grew.ext ?_ _ _) | (with_reducible refine Grew.alloc ?_ _) | ((with_reducible refine Grew.setCell ?_ ?_ _); rotate_left; (focus (dsimp only; first | omega | (simp only [size_ext, World.size_alloc, Array.size_append]; omega)))) | (with_reducible refine Grew.drewN ?_ _) | (with_reducible refine Grew.drew ?_)))⟩
end Go.Proofs.Ytcmggfpcbijcjaa
end
section
/-
  Contracts: the system's num, at, less (trsv).
-/
set_option linter.unusedSimpArgs false
set_option linter.unusedVariables false
open Go Go.RowKit Sedge
namespace Go.Proofs.Ytcmggfpcbijcjaa
set_option maxRecDepth 100000 in
set_option maxHeartbeats 1000000 in
/-- The system's num. -/
theorem num_any (m : MatM) (x : VecM) (D : Value) (g cap i : Nat) (w : World) (hx : x.right = true) (hi : (i : Int) < x.n) (hl : x.ws.length ≤ 1000000) :
   Calls Try.prog 156 #[.agg #[D, .int .i64 m.off, .int .i64 m.rows, .int .i64 m.cols, .int .i64 m.ld, .slice (some ⟨g, 0, none⟩) x.ws.length cap, .int .i64 x.off, .int .i64 x.n, .int .i64 x.inc], .int .i64 i] w
     (fun e w' => e = .returned (.pointer (some ⟨g, (x.off + i * x.inc).toNat, none⟩)) ∧ ∃ o n, w' = ext w o n) := by
  have hp := VecM.right_place hx hi
  have hn := VecM.right_n hx
  have r1 : IntKind.i64.wrap (i * x.inc) = i * x.inc := IntWalk.i64_in _ (by omega)
  have r2 : IntKind.i64.wrap (x.off + i * x.inc) = x.off + i * x.inc := IntWalk.i64_in _ (by omega)
  clear hx
  go_enter Try.func156, Try.ntmps156
  refine seq_stop ?_
  go_wp2
  refine stop_go (fun W hW => ?_)
  have s1 : w.heap.size < W.heap.size := by rw [hW]; simp only [World.size_alloc]; omega
  have b1 : ∀ i, W.cell? ⟨w.heap.size, i, none⟩ = (#[D, .int .i64 m.off, .int .i64 m.rows, .int .i64 m.cols, .int .i64 m.ld, .slice (some ⟨g, 0, none⟩) x.ws.length cap, .int .i64 x.off, .int .i64 x.n, .int .i64 x.inc] : Array Value)[i]? := by intro i; rw [hW]; go_simp
  have g0 : Grew w W := by rw [hW]; exact (Grew.refl _).alloc _
  clear hW
  go_wp2
  go_ret
  exact ⟨rfl, by (show Grew _ _; repeat (first | (with_reducible exact Grew.refl _) | (with_reducible assumption) | (with_reducible exact Grew.same_o) | (with_reducible exact Grew.app_o) | (with_reducible refine Grew.ext ?_ _ _) | (with_reducible refine Grew.alloc ?_ _) | ((with_reducible refine Grew.setCell ?_ ?_ _); rotate_left; (focus (dsimp only; first | omega | (simp only [size_ext, World.size_alloc, Array.size_append]; omega)))) | (with_reducible refine Grew.drewN ?_ _) | (with_reducible refine Grew.drew ?_)))⟩
set_option maxRecDepth 100000 in
set_option maxHeartbeats 1000000 in
/-- The system's at. -/
theorem tat_any (m : MatM) (D X : Value) (a b c : Int) (i j : Nat) (w : World) (hD : FS w D m.ws) (hm : m.good = true) (hi : (i : Int) < m.rows) (hj : (j : Int) < m.cols) (hl : m.ws.length ≤ 1000000) :
   Calls Try.prog 155 #[.agg #[D, .int .i64 m.off, .int .i64 m.rows, .int .i64 m.cols, .int .i64 m.ld, X, .int .i64 a, .int .i64 b, .int .i64 c], .int .i64 i, .int .i64 j] w
     (fun e w' => ∃ r, e = .returned (.float .f64 r) ∧ IsF r (m.num i j) ∧ ∃ o n, w' = ext w o n) := by
  have hp := MatM.good_place hm hi hj
  have hn := m.good_n hm
  obtain ⟨blk, o, cap, rfl, hblk, hc⟩ := hD.open (by omega)
  obtain ⟨r, hb0, hf⟩ := hc (m.place i j) (by unfold MatM.place; omega)
  have hf' : IsF r (m.num i j) := hf
  unfold MatM.place at hb0
  have r1 : IntKind.i64.wrap (m.off + i) = m.off + i := IntWalk.i64_in _ (by omega)
  have r2 : IntKind.i64.wrap (j * m.ld) = j * m.ld := IntWalk.i64_in _ (by omega)
  have r3 : IntKind.i64.wrap (m.off + i + j * m.ld) = m.off + i + j * m.ld := IntWalk.i64_in _ (by omega)
  clear hm hc
  go_enter Try.func155, Try.ntmps155
  refine seq_stop ?_
  go_wp2
  refine stop_go (fun W hW => ?_)
  have s1 : w.heap.size < W.heap.size := by rw [hW]; simp only [World.size_alloc]; omega
  have b1 : ∀ i, W.cell? ⟨w.heap.size, i, none⟩ = (#[.slice (some ⟨blk, o, none⟩) m.ws.length cap, .int .i64 m.off, .int .i64 m.rows, .int .i64 m.cols, .int .i64 m.ld, X, .int .i64 a, .int .i64 b, .int .i64 c] : Array Value)[i]? := by intro i; rw [hW]; go_simp
  have g0 : Grew w W := by rw [hW]; exact (Grew.refl _).alloc _
  clear hW
  have hb := (g0.cell hblk).trans hb0
  have kb : blk < W.heap.size := by omega
  go_wp2
  go_ret
  exact ⟨r, rfl, hf', by (show Grew _ _; repeat (first | (with_reducible exact Grew.refl _) | (with_reducible assumption) | (with_reducible exact Grew.same_o) | (with_reducible exact Grew.app_o) | (with_reducible refine Grew.ext ?_ _ _) | (with_reducible refine Grew.alloc ?_ _) | ((with_reducible refine Grew.setCell ?_ ?_ _); rotate_left; (focus (dsimp only; first | omega | (simp only [size_ext, World.size_alloc, Array.size_append]; omega)))) | (with_reducible refine Grew.drewN ?_ _) | (with_reducible refine Grew.drew ?_)))⟩
set_option maxRecDepth 100000 in
set_option maxHeartbeats 1000000 in
/-- The system's less. -/
theorem sless_any (m : MatM) (x : VecM) (D : Value) (g cap i k r y : Nat) (ws : List Nat) (w : World) (hF : FW w g ws) (hlen : ws.length = x.ws.length) (hx : x.right = true) (hi : (i : Int) < x.n) (hk : (k : Int) < x.n) (hl : x.ws.length ≤ 1000000) (hr : IsF r y) :
   Calls Try.prog 154 #[.agg #[D, .int .i64 m.off, .int .i64 m.rows, .int .i64 m.cols, .int .i64 m.ld, .slice (some ⟨g, 0, none⟩) x.ws.length cap, .int .i64 x.off, .int .i64 x.n, .int .i64 x.inc], .int .i64 i, .int .i64 k, .float .f64 r] w
     (fun e w' => e = .returned (.tuple #[]) ∧ Wrote w w' g (ws.set (x.place i) (fsub (ws.getD (x.place i) 0) (fmul y (ws.getD (x.place k) 0))))) := by
  have hpi := VecM.right_place hx hi
  have hpk := VecM.right_place hx hk
  have hltg := hF.lt
  have hnum : ∀ (t : Nat) (w' : World), (t : Int) < x.n → Calls Try.prog 156 #[.agg #[D, .int .i64 m.off, .int .i64 m.rows, .int .i64 m.cols, .int .i64 m.ld, .slice (some ⟨g, 0, none⟩) x.ws.length cap, .int .i64 x.off, .int .i64 x.n, .int .i64 x.inc], .int .i64 t] w'
      (fun e w2 => e = .returned (.pointer (some ⟨g, (x.off + t * x.inc).toNat, none⟩)) ∧ ∃ o n, w2 = ext w' o n) := fun t w' h => num_any m x D g cap t w' hx h hl
  clear hx
  go_enter Try.func154, Try.ntmps154
  refine seq_stop ?_
  go_wp2
  refine stop_go (fun W hW => ?_)
  have s1 : w.heap.size < W.heap.size := by rw [hW]; simp only [World.size_alloc]; omega
  have b1 : ∀ i, W.cell? ⟨w.heap.size, i, none⟩ = (#[D, .int .i64 m.off, .int .i64 m.rows, .int .i64 m.cols, .int .i64 m.ld, .slice (some ⟨g, 0, none⟩) x.ws.length cap, .int .i64 x.off, .int .i64 x.n, .int .i64 x.inc] : Array Value)[i]? := by intro i; rw [hW]; go_simp
  have g0 : Grew w W := by rw [hW]; exact (Grew.refl _).alloc _
  clear hW
  have hFW := hF.grew g0
  have gl := hFW.lt
  have q1 : w.heap.size ≠ g := by omega
  have fz : ∀ i, W.frozen? ⟨g, i, none⟩ = false := hFW.notFrozen
  obtain ⟨r0, hr0, hf0⟩ := hFW.get (i := x.place i) (by rw [hlen]; unfold VecM.place; omega)
  obtain ⟨s0, hs0, hg0⟩ := hFW.get (i := x.place k) (by rw [hlen]; unfold VecM.place; omega)
  have hr1 := hr0
  have hs1 := hs0
  unfold VecM.place at hr1 hs1
  clear hr0 hs0
  refine wp_region_R (Grew W) [14] [(0,0), (3,1), (3,5), (0,6), (3,7), (1,2), (3,3), (0,4), (1,8), (3,9), (0,10), (1,11), (1,12), (3,13), (2,14)] (by kernel_rfl) (by kernel_rfl) (fun _ _ _ _ h _ => h) (by first | exact ⟨_, _, ext_drew⟩ | exact ⟨_, _, drew_ext0⟩ | (show Grew _ _; repeat (first | (with_reducible exact Grew.refl _) | (with_reducible assumption) | (with_reducible exact Grew.same_o) | (with_reducible exact Grew.app_o) | (with_reducible refine Grew.ext ?_ _ _) | (with_reducible refine Grew.alloc ?_ _) | ((with_reducible refine Grew.setCell ?_ ?_ _); rotate_left; (focus (dsimp only; first | omega | (simp only [size_ext, World.size_alloc, Array.size_append]; omega)))) | (with_reducible refine Grew.drewN ?_ _) | (with_reducible refine Grew.drew ?_)))) ?_
  go_wp2_with (first | ((with_reducible refine wpR_id ?_); first | (refine wpR_take (v := ?_) rfl rfl ?_ ?_; rotate_left; (focus (rintro w' ⟨o', n', rfl⟩; go_simp; try with_reducible rfl)); simp only [Act.put, List.setIfInBounds_toArray, List.set_cons_zero, List.set_cons_succ]) | (refine wpR_pure (v := ?_) rfl rfl ?_ ?_; rotate_left; (focus (intro w'; go_simp; try with_reducible rfl)); simp only [Act.put, List.setIfInBounds_toArray, List.set_cons_zero, List.set_cons_succ]) | (refine wpR_takeG (v := ?_) rfl rfl rfl rfl rfl ?_ ?_; rotate_left; (focus (rintro w' ⟨o', n', rfl⟩; go_simp; try with_reducible rfl)); simp only [Act.put, List.setIfInBounds_toArray, List.set_cons_zero, List.set_cons_succ]) | (refine wpR_skip rfl rfl rfl rfl rfl rfl ?_; simp only [Act.put, List.setIfInBounds_toArray, List.set_cons_zero, List.set_cons_succ]) | (refine wpR_skipU rfl rfl rfl rfl rfl ?_; simp only [Act.put, List.setIfInBounds_toArray, List.set_cons_zero, List.set_cons_succ]) | (refine wpR_do rfl rfl (fun K hK => ?_)) | (refine wpR_doG rfl rfl rfl rfl rfl (fun K hK => ?_)) | (refine wpR_last rfl rfl (fun K hK => ?_)) | (refine wpR_nil ?_)) | ((with_reducible refine wpR_go ?_ ?_); (focus exact ⟨_, _, rfl⟩)) | ((with_reducible refine upon_id ?_); refine upon_fop rfl (by assumption) (by assumption) ?_; intro rr nn hr) | (go_at_call 156; ((with_reducible refine (hnum i _ hi).mono ?_); rintro e w1 ⟨rfl, o1, n1, rfl⟩)) | (go_at_call 156; ((with_reducible refine (hnum k _ hk).mono ?_); rintro e w1 ⟨rfl, o1, n1, rfl⟩)))
  go_end0
  exact ⟨rfl, Wrote.grew_l g0 hltg ((hFW.wrote (k := x.place i) hr).grew_r ⟨_, _, rfl⟩)⟩
end Go.Proofs.Ytcmggfpcbijcjaa
end
section
/-
  Plain: the steps of a triangular system, column by column and row by row, come to the same.
-/
set_option linter.unusedSimpArgs false
set_option linter.unusedVariables false
namespace Sedge
def lessF (s : Nat → Nat) (i k a : Nat) : Nat → Nat := fun r => if r = i then fsub (s i) (fmul a (s k)) else s r
def divF (s : Nat → Nat) (i a : Nat) : Nat → Nat := fun r => if r = i then fdiv (s i) a else s r
theorem lessF_eq {s : Nat → Nat} {i k a : Nat} : lessF s i k a i = fsub (s i) (fmul a (s k)) := by simp [lessF]
theorem lessF_ne {s : Nat → Nat} {i k a r : Nat} (h : r ≠ i) : lessF s i k a r = s r := by simp [lessF, h]
theorem divF_eq {s : Nat → Nat} {i a : Nat} : divF s i a i = fdiv (s i) a := by simp [divF]
theorem divF_ne {s : Nat → Nat} {i a r : Nat} (h : r ≠ i) : divF s i a r = s r := by simp [divF, h]
section
variable (M : Nat → Nat → Nat)
/-- Row i: less its first t products, the columns in their order. -/
def rowIn (s : Nat → Nat) (i : Nat) : Nat → (Nat → Nat)
  | 0 => s
  | t + 1 => lessF (rowIn s i t) i t (M i t)
def rowAll (s : Nat → Nat) : Nat → (Nat → Nat)
  | 0 => s
  | i + 1 => rowIn M (rowAll s i) i i
/-- Column j: out of the t rows below it. -/
def colIn (s : Nat → Nat) (j : Nat) : Nat → (Nat → Nat)
  | 0 => s
  | t + 1 => lessF (colIn s j t) (j + 1 + t) j (M (j + 1 + t) j)
def colAll (n : Nat) (s : Nat → Nat) : Nat → (Nat → Nat)
  | 0 => s
  | j + 1 => colIn M (colAll n s j) j (n - 1 - j)
variable {M} {s : Nat → Nat}
theorem rowIn_ne {i r : Nat} (h : r ≠ i) : ∀ t, rowIn M s i t r = s r
  | 0 => rfl
  | t + 1 => by unfold rowIn; rw [lessF_ne h, rowIn_ne h t]
theorem rowAll_ge {r : Nat} : ∀ k, k ≤ r → rowAll M s k r = s r
  | 0, _ => rfl
  | k + 1, h => by unfold rowAll; rw [rowIn_ne (by omega), rowAll_ge k (by omega)]
theorem rowAll_gt {r : Nat} : ∀ k, r < k → rowAll M s k r = rowAll M s (r + 1) r
  | 0, h => absurd h (by omega)
  | k + 1, h => by
    by_cases e : r = k
    · subst e; rfl
    · show rowIn M (rowAll M s k) k k r = _
      rw [rowIn_ne e, rowAll_gt k (by omega)]
/-- Row r less t products. -/
def gRow (M : Nat → Nat → Nat) (s : Nat → Nat) (r t : Nat) : Nat := rowIn M (rowAll M s r) r t r
theorem gRow_zero {r : Nat} : gRow M s r 0 = s r := rowAll_ge r (Nat.le_refl r)
theorem gRow_succ {r t : Nat} (h : t < r) : gRow M s r (t + 1) = fsub (gRow M s r t) (fmul (M r t) (gRow M s t t)) := by
  show lessF (rowIn M (rowAll M s r) r t) r t (M r t) r = _
  rw [lessF_eq, rowIn_ne (by omega : t ≠ r), rowAll_gt r h]
  rfl
theorem rowAll_g {n r : Nat} (h : r < n) : rowAll M s n r = gRow M s r r := by rw [rowAll_gt n h]; rfl
theorem colIn_eq {v : Nat → Nat} {n j : Nat} (hs : ∀ r, r < n → s r = gRow M v r (min r j)) (hj : j < n) : ∀ t, j + t < n → ∀ r, r < n → colIn M s j t r = if j < r ∧ r ≤ j + t then gRow M v r (j + 1) else s r
  | 0, _, r, _ => by rw [if_neg (by omega)]; rfl
  | t + 1, ht, r, hr => by
    show lessF (colIn M s j t) (j + 1 + t) j (M (j + 1 + t) j) r = _
    have ih := colIn_eq hs hj t (by omega)
    by_cases e : r = j + 1 + t
    · subst e
      rw [lessF_eq, ih _ (by omega), if_neg (by omega), ih j hj, if_neg (by omega), if_pos (by omega), hs _ (by omega), hs j hj, Nat.min_self, Nat.min_eq_right (by omega), gRow_succ (by omega)]
    · rw [lessF_ne e, ih r hr]
      by_cases h1 : j < r ∧ r ≤ j + t
      · rw [if_pos h1, if_pos (by omega)]
      · rw [if_neg h1, if_neg (by omega)]
theorem colAll_eq {n : Nat} : ∀ j, j ≤ n → ∀ r, r < n → colAll M n s j r = gRow M s r (min r j)
  | 0, _, r, _ => by rw [Nat.min_zero, gRow_zero]; rfl
  | j + 1, hj, r, hr => by
    have ih := colAll_eq (n := n) j (by omega)
    show colIn M (colAll M n s j) j (n - 1 - j) r = _
    rw [colIn_eq ih (by omega) _ (by omega) r hr]
    by_cases h1 : j < r
    · rw [if_pos (by omega), Nat.min_eq_right (by omega)]
    · rw [if_neg (by omega), ih r hr, Nat.min_eq_left (by omega), Nat.min_eq_left (by omega)]
/-- Kind 1: column by column is row by row. -/
theorem col_row {n r : Nat} (h : r < n) : colAll M n s n r = rowAll M s n r := by
  rw [colAll_eq n (Nat.le_refl n) r h, Nat.min_eq_left (by omega), rowAll_g h]
end
section
variable (M : Nat → Nat → Nat) (n : Nat)
def rowIn2 (s : Nat → Nat) (i : Nat) : Nat → (Nat → Nat)
  | 0 => s
  | t + 1 => lessF (rowIn2 s i t) i (n - 1 - t) (M i (n - 1 - t))
def rowAll2 (s : Nat → Nat) : Nat → (Nat → Nat)
  | 0 => s
  | k + 1 => divF (rowIn2 M n (rowAll2 s k) (n - 1 - k) k) (n - 1 - k) (M (n - 1 - k) (n - 1 - k))
def colIn2 (s : Nat → Nat) (j : Nat) : Nat → (Nat → Nat)
  | 0 => s
  | t + 1 => lessF (colIn2 s j t) t j (M t j)
def colAll2 (s : Nat → Nat) : Nat → (Nat → Nat)
  | 0 => s
  | k + 1 => colIn2 M (divF (colAll2 s k) (n - 1 - k) (M (n - 1 - k) (n - 1 - k))) (n - 1 - k) (n - 1 - k)
variable {M n} {s : Nat → Nat}
theorem rowIn2_ne {i r : Nat} (h : r ≠ i) : ∀ t, rowIn2 M n s i t r = s r
  | 0 => rfl
  | t + 1 => by unfold rowIn2; rw [lessF_ne h, rowIn2_ne h t]
theorem rowAll2_ge {r : Nat} (hr : r < n) : ∀ k, k ≤ n - 1 - r → rowAll2 M n s k r = s r
  | 0, _ => rfl
  | k + 1, h => by unfold rowAll2; rw [divF_ne (by omega), rowIn2_ne (by omega), rowAll2_ge hr k (by omega)]
theorem rowAll2_gt {r : Nat} (hr : r < n) : ∀ k, n - 1 - r < k → k ≤ n → rowAll2 M n s k r = rowAll2 M n s (n - 1 - r + 1) r
  | 0, h, _ => absurd h (by omega)
  | k + 1, h, hk => by
    by_cases e : k = n - 1 - r
    · subst e; rfl
    · show divF (rowIn2 M n (rowAll2 M n s k) (n - 1 - k) k) (n - 1 - k) _ r = _
      rw [divF_ne (by omega), rowIn2_ne (by omega), rowAll2_gt hr k (by omega) (by omega)]
def gRow2 (M : Nat → Nat → Nat) (n : Nat) (s : Nat → Nat) (r t : Nat) : Nat := rowIn2 M n (rowAll2 M n s (n - 1 - r)) r t r
def fRow2 (M : Nat → Nat → Nat) (n : Nat) (s : Nat → Nat) (r : Nat) : Nat := fdiv (gRow2 M n s r (n - 1 - r)) (M r r)
theorem gRow2_zero {r : Nat} (hr : r < n) : gRow2 M n s r 0 = s r := rowAll2_ge hr _ (Nat.le_refl _)
theorem rowAll2_f {r k : Nat} (hr : r < n) (h : n - 1 - r < k) (hk : k ≤ n) : rowAll2 M n s k r = fRow2 M n s r := by
  rw [rowAll2_gt hr k h hk]
  show divF (rowIn2 M n (rowAll2 M n s (n - 1 - r)) (n - 1 - (n - 1 - r)) (n - 1 - r)) (n - 1 - (n - 1 - r)) (M (n - 1 - (n - 1 - r)) (n - 1 - (n - 1 - r))) r = _
  rw [show n - 1 - (n - 1 - r) = r by omega, divF_eq]; rfl
theorem gRow2_succ {r t : Nat} (hr : r < n) (h : t < n - 1 - r) : gRow2 M n s r (t + 1) = fsub (gRow2 M n s r t) (fmul (M r (n - 1 - t)) (fRow2 M n s (n - 1 - t))) := by
  show lessF (rowIn2 M n (rowAll2 M n s (n - 1 - r)) r t) r (n - 1 - t) (M r (n - 1 - t)) r = _
  rw [lessF_eq, rowIn2_ne (by omega : n - 1 - t ≠ r), rowAll2_f (by omega) (by omega) (by omega)]
  rfl
theorem colIn2_eq {k j : Nat} {u : Nat → Nat} (hj : j = n - 1 - k) (hk : k < n) (hu : ∀ r, r < j → u r = gRow2 M n s r k) (huj : u j = fRow2 M n s j) : ∀ t, t ≤ j → ∀ r, r < n → colIn2 M u j t r = if r < t then gRow2 M n s r (k + 1) else u r
  | 0, _, r, _ => by rw [if_neg (by omega)]; rfl
  | t + 1, ht, r, hr => by
    show lessF (colIn2 M u j t) t j (M t j) r = _
    have ih := colIn2_eq hj hk hu huj t (by omega)
    by_cases e : r = t
    · subst e
      rw [lessF_eq, ih r hr, if_neg (by omega), ih j (by omega), if_neg (by omega), if_pos (by omega), hu r (by omega), huj, gRow2_succ hr (by omega), hj]
    · rw [lessF_ne e, ih r hr]
      by_cases h1 : r < t
      · rw [if_pos h1, if_pos (by omega)]
      · rw [if_neg h1, if_neg (by omega)]
theorem colAll2_eq : ∀ k, k ≤ n → ∀ r, r < n → colAll2 M n s k r = if n - 1 - r < k then fRow2 M n s r else gRow2 M n s r k
  | 0, _, r, hr => by rw [if_neg (by omega), gRow2_zero hr]; rfl
  | k + 1, hk, r, hr => by
    have ih := colAll2_eq k (by omega)
    show colIn2 M (divF (colAll2 M n s k) (n - 1 - k) (M (n - 1 - k) (n - 1 - k))) (n - 1 - k) (n - 1 - k) r = _
    have e1 : n - 1 - (n - 1 - k) = k := by omega
    rw [colIn2_eq (k := k) (s := s) rfl (by omega) (fun q hq => by rw [divF_ne (by omega), ih q (by omega), if_neg (by omega)]) (by rw [divF_eq, ih _ (by omega), if_neg (by omega)]; unfold fRow2; rw [e1]) _ (Nat.le_refl _) r hr]
    by_cases h1 : r < n - 1 - k
    · rw [if_pos h1, if_neg (by omega)]
    · rw [if_neg h1, if_pos (by omega)]
      by_cases h2 : r = n - 1 - k
      · subst h2
        rw [divF_eq, ih _ (by omega), if_neg (by omega)]; unfold fRow2; rw [e1]
      · rw [divF_ne h2, ih r hr, if_pos (by omega)]
/-- Kind 2: column by column is row by row. -/
theorem col_row2 {r : Nat} (h : r < n) : colAll2 M n s n r = rowAll2 M n s n r := by
  rw [colAll2_eq n (Nat.le_refl n) r h, if_pos (by omega), rowAll2_f h (by omega) (Nat.le_refl n)]
end
end Sedge
end
section
/-
  Plain: a vector's numbers as a function; the four kinds of a triangular system.
-/
set_option linter.unusedSimpArgs false
set_option linter.unusedVariables false
open Go.Proofs.Ytcmggfpcbijcjaa
namespace Sedge
/-- The list L is x's, but its numbers are s. -/
structure VH (x : VecM) (L : List Nat) (s : Nat → Nat) : Prop where
  len : L.length = x.ws.length
  get : ∀ r : Nat, (r : Int) < x.n → L.getD (x.place r) 0 = s r
  rest : ∀ q, (∀ r : Nat, (r : Int) < x.n → x.place r ≠ q) → L.getD q 0 = x.ws.getD q 0
theorem VH.start (x : VecM) : VH x x.ws x.num := ⟨rfl, fun _ _ => rfl, fun _ _ => rfl⟩
theorem VH.set {x : VecM} {L : List Nat} {s : Nat → Nat} (h : VH x L s) (hx : x.right = true) {i v : Nat} (hi : (i : Int) < x.n) : VH x (L.set (x.place i) v) (fun r => if r = i then v else s r) := by
  refine ⟨by simp [h.len], fun r hr => ?_, fun q hq => ?_⟩
  · by_cases e : r = i
    · subst e; rw [getD_set_eq (by rw [h.len]; exact VecM.place_lt hx hi)]; simp
    · rw [getD_set_ne' (fun e' => e (VecM.place_inj hx hr hi e'.symm)), h.get r hr]; simp [e]
  · rw [getD_set_ne' (hq i hi), h.rest q hq]
theorem VH.less {x : VecM} {L : List Nat} {s : Nat → Nat} (h : VH x L s) (hx : x.right = true) {i k a : Nat} (hi : (i : Int) < x.n) (hk : (k : Int) < x.n) :
    VH x (L.set (x.place i) (fsub (L.getD (x.place i) 0) (fmul a (L.getD (x.place k) 0)))) (lessF s i k a) := by
  rw [h.get i hi, h.get k hk]
  exact h.set hx hi
theorem VH.div {x : VecM} {L : List Nat} {s : Nat → Nat} (h : VH x L s) (hx : x.right = true) {i a : Nat} (hi : (i : Int) < x.n) : VH x (L.set (x.place i) (fdiv (L.getD (x.place i) 0) a)) (divF s i a) := by
  rw [h.get i hi]; exact h.set hx hi
theorem VH.congr {x : VecM} {L : List Nat} {s t : Nat → Nat} (h : VH x L s) (e : ∀ r : Nat, (r : Int) < x.n → s r = t r) : VH x L t := ⟨h.len, fun r hr => (h.get r hr).trans (e r hr), h.rest⟩
theorem VH.final {x : VecM} {L : List Nat} {s : Nat → Nat} (h : VH x L s) (hx : x.right = true) : L = VecMwrite x ((List.range x.n.toNat).map s) := by
  have hn := VecM.right_n hx
  have hm : min x.n.toNat ((List.range x.n.toNat).map s).length = x.n.toNat := by simp
  unfold VecMwrite VecMwriteTo
  rw [hm]
  apply List.ext_getElem?
  intro q
  have hl : L.length = (writes x.ws x.place (fun t => ((List.range x.n.toNat).map s).getD t 0) x.n.toNat).length := by rw [writes_length, h.len]
  by_cases hq : q < L.length
  · have e : L.getD q 0 = (writes x.ws x.place (fun t => ((List.range x.n.toNat).map s).getD t 0) x.n.toNat).getD q 0 := by
      by_cases hp : ∃ r : Nat, (r : Int) < x.n ∧ x.place r = q
      · obtain ⟨r, hr, rfl⟩ := hp
        rw [h.get r hr, writes_at x.n.toNat (fun a b ha hb e => VecM.place_inj hx (by omega) (by omega) e) (fun a ha => VecM.place_lt hx (by omega)) r (by omega)]
        rw [List.getD_eq_getElem?_getD, List.getElem?_map, List.getElem?_range (by omega)]; rfl
      · have hp' : ∀ r : Nat, (r : Int) < x.n → x.place r ≠ q := fun r hr e => hp ⟨r, hr, e⟩
        rw [h.rest q hp', writes_other x.n.toNat fun t ht => hp' t (by omega)]
    rw [List.getD_eq_getElem?_getD, List.getD_eq_getElem?_getD, List.getElem?_eq_getElem hq, List.getElem?_eq_getElem (by omega)] at e
    rw [List.getElem?_eq_getElem hq, List.getElem?_eq_getElem (by omega)]
    simpa using e
  · rw [List.getElem?_eq_none (by omega), List.getElem?_eq_none (by omega)]
section
variable (M : Nat → Nat → Nat) (n : Nat)
def rowIn3 (s : Nat → Nat) (i : Nat) : Nat → (Nat → Nat)
  | 0 => s
  | t + 1 => lessF (rowIn3 s i t) i (i + 1 + t) (M (i + 1 + t) i)
def rowAll3 (s : Nat → Nat) : Nat → (Nat → Nat)
  | 0 => s
  | k + 1 => rowIn3 M (rowAll3 s k) (n - 1 - k) k
def rowIn4 (s : Nat → Nat) (i : Nat) : Nat → (Nat → Nat)
  | 0 => s
  | t + 1 => lessF (rowIn4 s i t) i t (M t i)
def rowAll4 (s : Nat → Nat) : Nat → (Nat → Nat)
  | 0 => s
  | i + 1 => divF (rowIn4 M (rowAll4 s i) i i) i (M i i)
/-- What a system of a kind comes to (as the document says it: row by row). -/
def solveF (k : Int) (s : Nat → Nat) : Nat → Nat :=
  if k = 1 then rowAll M s n else if k = 2 then rowAll2 M n s n else if k = 3 then rowAll3 M n s n else rowAll4 M s n
end
end Sedge
end
section
/-
  Contract: trsv.Solve, of a system that is solved (kind 1).
-/
set_option linter.unusedSimpArgs false
set_option linter.unusedVariables false
open Go Go.RowKit Sedge
namespace Go.Proofs.Ytcmggfpcbijcjaa
set_option maxRecDepth 100000 in
set_option maxHeartbeats 2000000 in
theorem solve_1 (m : MatM) (x : VecM) (a g ca cg : Nat) (w : World) (hD : FS w (.slice (some ⟨a, 0, none⟩) m.ws.length ca) m.ws) (hF : FW w g x.ws) (hPa : Plain w a) (hm : m.good = true) (hx : x.right = true) (hwm : m.wf) (hwx : x.wf)
    (hsq : m.rows = m.cols) (hn : m.rows = x.n) (hr : m.rows ≤ 1000) (hlm : m.ws.length ≤ 1000000) (hlx : x.ws.length ≤ 1000000) (hmeet : meetM (rowM x) m (decide (g = a)) = false) (hz : zeroTo 1 m m.rows.toNat = false)
    (hat : ∀ w' L s, But w [g] w' → FW w' g L → VH x L s → ∀ i j : Nat, (i : Int) < m.rows → (j : Int) < m.rows → Calls Try.prog 155 #[.agg #[.slice (some ⟨a, 0, none⟩) m.ws.length ca, .int .i64 m.off, .int .i64 m.rows, .int .i64 m.cols, .int .i64 m.ld, .slice (some ⟨g, 0, none⟩) x.ws.length cg, .int .i64 x.off, .int .i64 x.n, .int .i64 x.inc], .int .i64 i, .int .i64 j] w'
      (fun e w2 => ∃ r, e = .returned (.float .f64 r) ∧ IsF r (m.num i j) ∧ ∃ o n, w2 = ext w' o n)) :
   Calls Try.prog 79 #[.int .i64 1, .agg #[.slice (some ⟨a, 0, none⟩) m.ws.length ca, .int .i64 m.off, .int .i64 m.rows, .int .i64 m.cols, .int .i64 m.ld], .agg #[.slice (some ⟨g, 0, none⟩) x.ws.length cg, .int .i64 x.off, .int .i64 x.n, .int .i64 x.inc]] w
     (fun e w' => e = .returned (.int .i64 0) ∧ But w [g] w' ∧ FW w' g (VecMwrite x ((List.range x.n.toNat).map (solveF m.num x.n.toNat 1 x.num)))) := by
  have hX := hF.fs (by omega) cg
  have hltg := hF.lt
  have hnn := VecM.right_n hx
  have cR : ∀ w', FS w' (.slice (some ⟨g, 0, none⟩) x.ws.length cg) x.ws → Calls Try.prog 135 #[.agg #[.slice (some ⟨g, 0, none⟩) x.ws.length cg, .int .i64 x.off, .int .i64 x.n, .int .i64 x.inc]] w' (fun e w2 => e = .returned (.bool true) ∧ ∃ o n, w2 = ext w' o n) := fun w' h => by
    have := right_any x _ w' h hwx; rw [hx] at this; exact this
  have cS : ∀ w', FS w' (.slice (some ⟨a, 0, none⟩) m.ws.length ca) m.ws → Calls Try.prog 151 #[.int .i64 1, .agg #[.slice (some ⟨a, 0, none⟩) m.ws.length ca, .int .i64 m.off, .int .i64 m.rows, .int .i64 m.cols, .int .i64 m.ld], .int .i64 x.n] w' (fun e w2 => e = .returned (.int .i64 0) ∧ ∃ o n, w2 = ext w' o n) := fun w' h => by
    have := square_any 1 m _ x.n w' h hwm
    have e : sqE 1 m x.n = 0 := by
      unfold sqE
      rw [if_neg (fun h => h.elim (by omega) (fun h => h.elim (by omega) (fun h => by rw [hm] at h; cases h))), if_pos ⟨hsq, hn⟩]
    rw [e] at this
    exact this
  have cM : ∀ w', FS w' (.slice (some ⟨g, 0, none⟩) x.ws.length cg) x.ws → FS w' (.slice (some ⟨a, 0, none⟩) m.ws.length ca) m.ws → Plain w' g → Plain w' a → Calls Try.prog 136 #[.agg #[.slice (some ⟨g, 0, none⟩) x.ws.length cg, .int .i64 x.off, .int .i64 1, .int .i64 x.n, .int .i64 x.inc], .agg #[.slice (some ⟨a, 0, none⟩) m.ws.length ca, .int .i64 m.off, .int .i64 m.rows, .int .i64 m.cols, .int .i64 m.ld]] w' (fun e w2 => e = .returned (.bool false) ∧ ∃ o n, w2 = ext w' o n) := fun w' h1 h2 p1 p2 => by
    have := meetM_any (rowM x) m g a cg ca w' h1 h2 p1 p2 (rowM_wf hwx) hwm hlx hlm
    rw [hmeet] at this; exact this
  have cZ : ∀ w', FS w' (.slice (some ⟨a, 0, none⟩) m.ws.length ca) m.ws → Calls Try.prog 153 #[.int .i64 1, .agg #[.slice (some ⟨a, 0, none⟩) m.ws.length ca, .int .i64 m.off, .int .i64 m.rows, .int .i64 m.cols, .int .i64 m.ld]] w' (fun e w2 => e = .returned (.bool false) ∧ ∃ o n, w2 = ext w' o n) := fun w' h => by
    have := zero_any 1 m _ w' h hm hwm hsq hr hlm; rw [hz] at this; exact this
  have Hx := hid hx
  have Hn := hid hn
  have HM := hid hsq
  clear hx hn hm hwm hwx hsq hmeet hz
  go_enter Try.func79, Try.ntmps79
  refine seq_stop ?_
  go_wp2
  refine stop_go (fun W hW => ?_)
  have s1 : w.heap.size < W.heap.size := by rw [hW]; simp only [World.size_alloc]; omega
  have b1 : ∀ i, W.cell? ⟨w.heap.size, i, none⟩ = (#[.slice (some ⟨a, 0, none⟩) m.ws.length ca, .int .i64 m.off, .int .i64 m.rows, .int .i64 m.cols, .int .i64 m.ld] : Array Value)[i]? := by intro i; rw [hW]; go_simp
  have s2 : w.heap.size + 1 < W.heap.size := by rw [hW]; simp only [World.size_alloc]; omega
  have b2 : ∀ i, W.cell? ⟨w.heap.size + 1, i, none⟩ = (#[.slice (some ⟨g, 0, none⟩) x.ws.length cg, .int .i64 x.off, .int .i64 x.n, .int .i64 x.inc] : Array Value)[i]? := by intro i; rw [hW]; go_simp
  have g0 : Grew w W := by rw [hW]; exact ((Grew.refl _).alloc _).alloc _
  clear hW
  have hDW := hD.grew g0
  have hXW := hX.grew g0
  go_wp2_with (first | (go_at_call 135; ((with_reducible refine (cR _ ?_).mono ?_); (focus (first | (with_reducible assumption) | (with_reducible refine FS.ext ?_ _ _; with_reducible assumption) | (with_reducible refine IS.ext ?_ _ _; with_reducible assumption) | (refine hDu _ ?_; with_reducible assumption) | (refine hOu _ ?_; with_reducible assumption) | (refine hDa _ ?_; with_reducible assumption) | (refine hDb _ ?_; with_reducible assumption) | (refine hDc _ ?_; with_reducible assumption) | (refine hDd _ ?_; with_reducible assumption) | (refine FW.fs ?_ (by omega) _; with_reducible assumption) | (refine WS.fs ?_; with_reducible assumption) | (refine FW.fs ?_ (by omega) _; assumption) | omega | assumption)); rintro e w1 ⟨rfl, oa, na, rfl⟩)) | (go_at_call 151; ((with_reducible refine (cS _ ?_).mono ?_); (focus (first | (with_reducible assumption) | (with_reducible refine FS.ext ?_ _ _; with_reducible assumption) | (with_reducible refine IS.ext ?_ _ _; with_reducible assumption) | (refine hDu _ ?_; with_reducible assumption) | (refine hOu _ ?_; with_reducible assumption) | (refine hDa _ ?_; with_reducible assumption) | (refine hDb _ ?_; with_reducible assumption) | (refine hDc _ ?_; with_reducible assumption) | (refine hDd _ ?_; with_reducible assumption) | (refine FW.fs ?_ (by omega) _; with_reducible assumption) | (refine WS.fs ?_; with_reducible assumption) | (refine FW.fs ?_ (by omega) _; assumption) | omega | assumption)); rintro e w1 ⟨rfl, ob, nb, rfl⟩)))
  refine wp_region_R (Grew W) [] [(0,0), (0,2), (1,1), (1,3), (0,4)] (by kernel_rfl) (by kernel_rfl) (fun _ _ _ _ h _ => h) (by first | exact ⟨_, _, ext_drew⟩ | exact ⟨_, _, drew_ext0⟩ | (show Grew _ _; repeat (first | (with_reducible exact Grew.refl _) | (with_reducible assumption) | (with_reducible exact Grew.same_o) | (with_reducible exact Grew.app_o) | (with_reducible refine Grew.ext ?_ _ _) | (with_reducible refine Grew.alloc ?_ _) | ((with_reducible refine Grew.setCell ?_ ?_ _); rotate_left; (focus (dsimp only; first | omega | (simp only [size_ext, World.size_alloc, Array.size_append]; omega)))) | (with_reducible refine Grew.drewN ?_ _) | (with_reducible refine Grew.drew ?_)))) ?_
  go_wp2_with (first | ((with_reducible refine wpR_id ?_); first | (refine wpR_take (v := ?_) rfl rfl ?_ ?_; rotate_left; (focus (rintro w' ⟨o', n', rfl⟩; go_simp; try with_reducible rfl)); simp only [Act.put, List.setIfInBounds_toArray, List.set_cons_zero, List.set_cons_succ]) | (refine wpR_pure (v := ?_) rfl rfl ?_ ?_; rotate_left; (focus (intro w'; go_simp; try with_reducible rfl)); simp only [Act.put, List.setIfInBounds_toArray, List.set_cons_zero, List.set_cons_succ]) | (refine wpR_takeG (v := ?_) rfl rfl rfl rfl rfl ?_ ?_; rotate_left; (focus (rintro w' ⟨o', n', rfl⟩; go_simp; try with_reducible rfl)); simp only [Act.put, List.setIfInBounds_toArray, List.set_cons_zero, List.set_cons_succ]) | (refine wpR_skip rfl rfl rfl rfl rfl rfl ?_; simp only [Act.put, List.setIfInBounds_toArray, List.set_cons_zero, List.set_cons_succ]) | (refine wpR_skipU rfl rfl rfl rfl rfl ?_; simp only [Act.put, List.setIfInBounds_toArray, List.set_cons_zero, List.set_cons_succ]) | (refine wpR_do rfl rfl (fun K hK => ?_)) | (refine wpR_doG rfl rfl rfl rfl rfl (fun K hK => ?_)) | (refine wpR_last rfl rfl (fun K hK => ?_)) | (refine wpR_nil ?_)) | ((with_reducible refine wpR_go ?_ ?_); (focus exact ⟨_, _, rfl⟩)) | ((with_reducible refine upon_id ?_); refine upon_fop rfl (by assumption) (by assumption) ?_; intro rr nn hr) | (go_at_call 152; ((with_reducible refine (trow_any x _ _ _ _).mono ?_); rintro e w1 ⟨rfl, oc, nc, rfl⟩)) | (go_at_call 136; ((with_reducible refine (cM _ ?_ ?_ ((FW.plain hF).grew (by (show Grew _ _; repeat (first | (with_reducible exact Grew.refl _) | (with_reducible assumption) | (with_reducible exact Grew.same_o) | (with_reducible exact Grew.app_o) | (with_reducible refine Grew.ext ?_ _ _) | (with_reducible refine Grew.alloc ?_ _) | ((with_reducible refine Grew.setCell ?_ ?_ _); rotate_left; (focus (dsimp only; first | omega | (simp only [size_ext, World.size_alloc, Array.size_append]; omega)))) | (with_reducible refine Grew.drewN ?_ _) | (with_reducible refine Grew.drew ?_))))) (hPa.grew (by (show Grew _ _; repeat (first | (with_reducible exact Grew.refl _) | (with_reducible assumption) | (with_reducible exact Grew.same_o) | (with_reducible exact Grew.app_o) | (with_reducible refine Grew.ext ?_ _ _) | (with_reducible refine Grew.alloc ?_ _) | ((with_reducible refine Grew.setCell ?_ ?_ _); rotate_left; (focus (dsimp only; first | omega | (simp only [size_ext, World.size_alloc, Array.size_append]; omega)))) | (with_reducible refine Grew.drewN ?_ _) | (with_reducible refine Grew.drew ?_)))))).mono ?_); (focus (first | (with_reducible assumption) | (with_reducible refine FS.ext ?_ _ _; with_reducible assumption) | (with_reducible refine IS.ext ?_ _ _; with_reducible assumption) | (refine hDu _ ?_; with_reducible assumption) | (refine hOu _ ?_; with_reducible assumption) | (refine hDa _ ?_; with_reducible assumption) | (refine hDb _ ?_; with_reducible assumption) | (refine hDc _ ?_; with_reducible assumption) | (refine hDd _ ?_; with_reducible assumption) | (refine FW.fs ?_ (by omega) _; with_reducible assumption) | (refine WS.fs ?_; with_reducible assumption) | (refine FW.fs ?_ (by omega) _; assumption) | omega | assumption)); (focus (first | (with_reducible assumption) | (with_reducible refine FS.ext ?_ _ _; with_reducible assumption) | (with_reducible refine IS.ext ?_ _ _; with_reducible assumption) | (refine hDu _ ?_; with_reducible assumption) | (refine hOu _ ?_; with_reducible assumption) | (refine hDa _ ?_; with_reducible assumption) | (refine hDb _ ?_; with_reducible assumption) | (refine hDc _ ?_; with_reducible assumption) | (refine hDd _ ?_; with_reducible assumption) | (refine FW.fs ?_ (by omega) _; with_reducible assumption) | (refine WS.fs ?_; with_reducible assumption) | (refine FW.fs ?_ (by omega) _; assumption) | omega | assumption)); rintro e w1 ⟨rfl, od, nd, rfl⟩)) | (go_at_call 153; ((with_reducible refine (cZ _ ?_).mono ?_); (focus (first | (with_reducible assumption) | (with_reducible refine FS.ext ?_ _ _; with_reducible assumption) | (with_reducible refine IS.ext ?_ _ _; with_reducible assumption) | (refine hDu _ ?_; with_reducible assumption) | (refine hOu _ ?_; with_reducible assumption) | (refine hDa _ ?_; with_reducible assumption) | (refine hDb _ ?_; with_reducible assumption) | (refine hDc _ ?_; with_reducible assumption) | (refine hDd _ ?_; with_reducible assumption) | (refine FW.fs ?_ (by omega) _; with_reducible assumption) | (refine WS.fs ?_; with_reducible assumption) | (refine FW.fs ?_ (by omega) _; assumption) | omega | assumption)); rintro e w1 ⟨rfl, oe, ne, rfl⟩)))
  refine wp_region_R (Grew W) [] [(0,0), (0,1), (0,2), (0,3), (0,4), (1,5), (1,6), (0,7)] (by kernel_rfl) (by kernel_rfl) (fun _ _ _ _ h _ => h) (by first | exact ⟨_, _, ext_drew⟩ | exact ⟨_, _, drew_ext0⟩ | (show Grew _ _; repeat (first | (with_reducible exact Grew.refl _) | (with_reducible assumption) | (with_reducible exact Grew.same_o) | (with_reducible exact Grew.app_o) | (with_reducible refine Grew.ext ?_ _ _) | (with_reducible refine Grew.alloc ?_ _) | ((with_reducible refine Grew.setCell ?_ ?_ _); rotate_left; (focus (dsimp only; first | omega | (simp only [size_ext, World.size_alloc, Array.size_append]; omega)))) | (with_reducible refine Grew.drewN ?_ _) | (with_reducible refine Grew.drew ?_)))) ?_
  go_wp2_with (first | ((with_reducible refine wpR_id ?_); first | (refine wpR_take (v := ?_) rfl rfl ?_ ?_; rotate_left; (focus (rintro w' ⟨o', n', rfl⟩; go_simp; try with_reducible rfl)); simp only [Act.put, List.setIfInBounds_toArray, List.set_cons_zero, List.set_cons_succ]) | (refine wpR_pure (v := ?_) rfl rfl ?_ ?_; rotate_left; (focus (intro w'; go_simp; try with_reducible rfl)); simp only [Act.put, List.setIfInBounds_toArray, List.set_cons_zero, List.set_cons_succ]) | (refine wpR_takeG (v := ?_) rfl rfl rfl rfl rfl ?_ ?_; rotate_left; (focus (rintro w' ⟨o', n', rfl⟩; go_simp; try with_reducible rfl)); simp only [Act.put, List.setIfInBounds_toArray, List.set_cons_zero, List.set_cons_succ]) | (refine wpR_skip rfl rfl rfl rfl rfl rfl ?_; simp only [Act.put, List.setIfInBounds_toArray, List.set_cons_zero, List.set_cons_succ]) | (refine wpR_skipU rfl rfl rfl rfl rfl ?_; simp only [Act.put, List.setIfInBounds_toArray, List.set_cons_zero, List.set_cons_succ]) | (refine wpR_do rfl rfl (fun K hK => ?_)) | (refine wpR_doG rfl rfl rfl rfl rfl (fun K hK => ?_)) | (refine wpR_last rfl rfl (fun K hK => ?_)) | (refine wpR_nil ?_)) | ((with_reducible refine wpR_go ?_ ?_); (focus (show Grew _ _; repeat (first | (with_reducible exact Grew.refl _) | (with_reducible assumption) | (with_reducible exact Grew.same_o) | (with_reducible exact Grew.app_o) | (with_reducible refine Grew.ext ?_ _ _) | (with_reducible refine Grew.alloc ?_ _) | ((with_reducible refine Grew.setCell ?_ ?_ _); rotate_left; (focus (dsimp only; first | omega | (simp only [size_ext, World.size_alloc, Array.size_append]; omega)))) | (with_reducible refine Grew.drewN ?_ _) | (with_reducible refine Grew.drew ?_))))) | ((with_reducible refine upon_id ?_); refine upon_fop rfl (by assumption) (by assumption) ?_; intro rr nn hr))
  refine name_any (fun V hV => ?_)
  have gV : Grew W V := by rw [← hV]; (show Grew _ _; repeat (first | (with_reducible exact Grew.refl _) | (with_reducible assumption) | (with_reducible exact Grew.same_o) | (with_reducible exact Grew.app_o) | (with_reducible refine Grew.ext ?_ _ _) | (with_reducible refine Grew.alloc ?_ _) | ((with_reducible refine Grew.setCell ?_ ?_ _); rotate_left; (focus (dsimp only; first | omega | (simp only [size_ext, World.size_alloc, Array.size_append]; omega)))) | (with_reducible refine Grew.drewN ?_ _) | (with_reducible refine Grew.drew ?_)))
  have gw : Grew w V := g0.trans gV
  have zW := g0.below.size
  have cT : ∀ i, V.cell? ⟨W.heap.size + (oa.size + (ob.size + (oc.size + (od.size + oe.size)))), i, none⟩ = (#[.slice (some ⟨a, 0, none⟩) m.ws.length ca, .int .i64 m.off, .int .i64 m.rows, .int .i64 m.cols, .int .i64 m.ld, .slice (some ⟨g, 0, none⟩) x.ws.length cg, .int .i64 x.off, .int .i64 x.n, .int .i64 x.inc] : Array Value)[i]? := by subst hV; intro i; go_simp
  have kT : W.heap.size + (oa.size + (ob.size + (oc.size + (od.size + oe.size)))) < V.heap.size := by rw [← hV]; simp only [World.size_alloc, size_ext, Array.size_append]; omega
  obtain ⟨T, hT⟩ : ∃ T, W.heap.size + (oa.size + (ob.size + (oc.size + (od.size + oe.size)))) = T := ⟨_, rfl⟩
  have zT : W.heap.size ≤ T := by omega
  rw [hT] at cT kT
  simp only [hT]
  have hFV : FW V g x.ws := hF.grew gw
  have cU : ∀ w', But V [g] w' → ∀ i, w'.cell? ⟨T, i, none⟩ = (#[.slice (some ⟨a, 0, none⟩) m.ws.length ca, .int .i64 m.off, .int .i64 m.rows, .int .i64 m.cols, .int .i64 m.ld, .slice (some ⟨g, 0, none⟩) x.ws.length cg, .int .i64 x.off, .int .i64 x.n, .int .i64 x.inc] : Array Value)[i]? := fun w' h i => (h.cell kT (by simp; omega)).trans (cT i)
  have bw : ∀ w', But V [g] w' → But w [g] w' := fun w' h => ((But.refl w [g]).grew gw).trans h (fun _ hb => .inl hb)
  have hnl := VecM.right_nle Hx.out hlx
  clear hV hT cT cR cS cM cZ b1 b2
  go_loopw [47] (fun c wr => ∃ (j : Nat) (L : List Nat), (j : Int) ≤ x.n ∧ c = .int .i64 j ∧ But V [g] wr ∧ FW wr g L ∧ VH x L (colAll m.num x.n.toNat x.num j)) (fun c _ => x.n.toNat - (intOf c).toNat)
  case atStart => exact ⟨0, x.ws, hnn.1, rfl, But.refl _ _, hFV, VH.start x⟩
  case round =>
    obtain ⟨j, L, hj, rfl, hB, hL, hS⟩ := hrel
    by_cases hlt : (j : Int) < x.n
    · go_wp2
      go_loopw [11] (fun c wr => ∃ (t : Nat) (L : List Nat), (j : Int) + 1 + t ≤ x.n ∧ c = .int .i64 ((j : Int) + 1 + t) ∧ But V [g] wr ∧ FW wr g L ∧ VH x L (colIn m.num (colAll m.num x.n.toNat x.num j) j t)) (fun c _ => (x.n - intOf c).toNat)
      case atStart => exact ⟨0, L, by omega, by go_num, hB, hL, hS⟩
      case round =>
        obtain ⟨t, L2, ht, rfl, hB2, hL2, hS2⟩ := hrel
        by_cases hl2 : (j : Int) + 1 + t < x.n
        · have hA : ∀ w' L s, But V [g] w' → FW w' g L → VH x L s → Calls Try.prog 155 #[.agg #[.slice (some ⟨a, 0, none⟩) m.ws.length ca, .int .i64 m.off, .int .i64 m.rows, .int .i64 m.cols, .int .i64 m.ld, .slice (some ⟨g, 0, none⟩) x.ws.length cg, .int .i64 x.off, .int .i64 x.n, .int .i64 x.inc], .int .i64 ((j : Int) + 1 + t), .int .i64 j] w' (fun e w2 => ∃ r, e = .returned (.float .f64 r) ∧ IsF r (m.num (j + 1 + t) j) ∧ ∃ o n, w2 = ext w' o n) := fun w' L s h1 h2 h3 => by
            have := hat w' L s (bw _ h1) h2 h3 (j + 1 + t) j (by have := Hn.out; omega) (by have := Hn.out; omega)
            push_cast at this; exact this
          have hB3 : ∀ w' r, FW w' g L2 → IsF r (m.num (j + 1 + t) j) → Calls Try.prog 154 #[.agg #[.slice (some ⟨a, 0, none⟩) m.ws.length ca, .int .i64 m.off, .int .i64 m.rows, .int .i64 m.cols, .int .i64 m.ld, .slice (some ⟨g, 0, none⟩) x.ws.length cg, .int .i64 x.off, .int .i64 x.n, .int .i64 x.inc], .int .i64 ((j : Int) + 1 + t), .int .i64 j, .float .f64 r] w' (fun e w2 => e = .returned (.tuple #[]) ∧ Wrote w' w2 g (L2.set (x.place (j + 1 + t)) (fsub (L2.getD (x.place (j + 1 + t)) 0) (fmul (m.num (j + 1 + t) j) (L2.getD (x.place j) 0))))) := fun w' r h1 h2 => by
            have := sless_any m x (.slice (some ⟨a, 0, none⟩) m.ws.length ca) g cg (j + 1 + t) j r _ L2 w' h1 hS2.len Hx.out (by omega) hlt hlx h2
            push_cast at this; exact this
          have tT2 := cU _ hB2
          go_wp2
          refine wp_region_R (But V [g]) [] [(0,0), (0,1), (0,2), (0,3), (0,4), (0,5), (1,6), (1,7)] (by kernel_rfl) (by kernel_rfl) (fun _ _ _ _ h _ => h) (hB2.grew ((Grew.refl _).drew)) ?_
          refine name_any (fun V6 hV6 => ?_)
          have B6 : But V [g] V6 := by rw [← hV6]; exact hB2.grew ((Grew.refl _).drew)
          have F6 : FW V6 g L2 := by rw [← hV6]; exact hL2.grew ((Grew.refl _).drew)
          clear hV6
          go_wp2_with (first | ((with_reducible refine wpR_id ?_); first | (refine wpR_take (v := ?_) rfl rfl ?_ ?_; rotate_left; (focus (intro w' hw'; go_simp; try with_reducible rfl)); simp only [Act.put, List.setIfInBounds_toArray, List.set_cons_zero, List.set_cons_succ]) | (refine wpR_pure (v := ?_) rfl rfl ?_ ?_; rotate_left; (focus (intro w'; go_simp; try with_reducible rfl)); simp only [Act.put, List.setIfInBounds_toArray, List.set_cons_zero, List.set_cons_succ]) | (refine wpR_takeG (v := ?_) rfl rfl rfl rfl rfl ?_ ?_; rotate_left; (focus (intro w' hw'; go_simp; try with_reducible rfl)); simp only [Act.put, List.setIfInBounds_toArray, List.set_cons_zero, List.set_cons_succ]) | (refine wpR_skip rfl rfl rfl rfl rfl rfl ?_; simp only [Act.put, List.setIfInBounds_toArray, List.set_cons_zero, List.set_cons_succ]) | (refine wpR_skipU rfl rfl rfl rfl rfl ?_; simp only [Act.put, List.setIfInBounds_toArray, List.set_cons_zero, List.set_cons_succ]) | (refine wpR_do rfl rfl (fun K hK => ?_)) | (refine wpR_doG rfl rfl rfl rfl rfl (fun K hK => ?_)) | (refine wpR_last rfl rfl (fun K hK => ?_)) | (refine wpR_nil ?_)) | ((with_reducible refine wpR_go ?_ ?_); (focus (with_reducible assumption))) | ((with_reducible refine upon_id ?_); refine upon_fop rfl (by assumption) (by assumption) ?_; intro rr nn hr) | (go_at_call 155; ((with_reducible refine (hA _ L2 _ B6 F6 hS2).mono ?_); rintro e w1 ⟨r, rfl, hr, hw1⟩; (have B7 := B6.grew hw1; have F7 := F6.grew hw1))) | (go_at_call 154; ((with_reducible refine (hB3 _ _ F7 hr).mono ?_); rintro e w1 ⟨rfl, hw2⟩; (have B8 := B7.wrote hw2 (.inl (by simp)); have F8 := hw2.fw F7))))
          go_roundw
          case rel => exact ⟨t + 1, _, by omega, by go_num, B8, F8, hS2.less Hx.out (by omega) hlt⟩
          case measure => simp [intOf]; omega
        · have e : t = x.n.toNat - 1 - j := by omega
          go_wp2
          go_roundw
          case rel => exact ⟨j + 1, L2, by omega, by go_num, hB2, hL2, by rw [e] at hS2; exact hS2⟩
          case measure => simp [intOf]; omega
    · have e : j = x.n.toNat := by omega
      have hf := (hS.congr (t := solveF m.num x.n.toNat 1 x.num) (fun r hr => by subst e; unfold solveF; rw [if_pos rfl]; exact col_row (by omega))).final Hx.out
      go_wp2
      go_ret
      exact ⟨rfl, bw _ hB, by rw [← hf]; exact hL⟩
end Go.Proofs.Ytcmggfpcbijcjaa
end
section
/-
  Contract: trsv.Solve, of a system that is solved (kind 3).
-/
set_option linter.unusedSimpArgs false
set_option linter.unusedVariables false
open Go Go.RowKit Sedge
namespace Go.Proofs.Ytcmggfpcbijcjaa
set_option maxRecDepth 100000 in
set_option maxHeartbeats 2000000 in
theorem solve_3 (m : MatM) (x : VecM) (a g ca cg : Nat) (w : World) (hD : FS w (.slice (some ⟨a, 0, none⟩) m.ws.length ca) m.ws) (hF : FW w g x.ws) (hPa : Plain w a) (hm : m.good = true) (hx : x.right = true) (hwm : m.wf) (hwx : x.wf)
    (hsq : m.rows = m.cols) (hn : m.rows = x.n) (hr : m.rows ≤ 1000) (hlm : m.ws.length ≤ 1000000) (hlx : x.ws.length ≤ 1000000) (hmeet : meetM (rowM x) m (decide (g = a)) = false) (hz : zeroTo 3 m m.rows.toNat = false)
    (hat : ∀ w' L s, But w [g] w' → FW w' g L → VH x L s → ∀ i j : Nat, (i : Int) < m.rows → (j : Int) < m.rows → Calls Try.prog 155 #[.agg #[.slice (some ⟨a, 0, none⟩) m.ws.length ca, .int .i64 m.off, .int .i64 m.rows, .int .i64 m.cols, .int .i64 m.ld, .slice (some ⟨g, 0, none⟩) x.ws.length cg, .int .i64 x.off, .int .i64 x.n, .int .i64 x.inc], .int .i64 i, .int .i64 j] w'
      (fun e w2 => ∃ r, e = .returned (.float .f64 r) ∧ IsF r (m.num i j) ∧ ∃ o n, w2 = ext w' o n)) :
   Calls Try.prog 79 #[.int .i64 3, .agg #[.slice (some ⟨a, 0, none⟩) m.ws.length ca, .int .i64 m.off, .int .i64 m.rows, .int .i64 m.cols, .int .i64 m.ld], .agg #[.slice (some ⟨g, 0, none⟩) x.ws.length cg, .int .i64 x.off, .int .i64 x.n, .int .i64 x.inc]] w
     (fun e w' => e = .returned (.int .i64 0) ∧ But w [g] w' ∧ FW w' g (VecMwrite x ((List.range x.n.toNat).map (solveF m.num x.n.toNat 3 x.num)))) := by
  have hX := hF.fs (by omega) cg
  have hltg := hF.lt
  have hnn := VecM.right_n hx
  have cR : ∀ w', FS w' (.slice (some ⟨g, 0, none⟩) x.ws.length cg) x.ws → Calls Try.prog 135 #[.agg #[.slice (some ⟨g, 0, none⟩) x.ws.length cg, .int .i64 x.off, .int .i64 x.n, .int .i64 x.inc]] w' (fun e w2 => e = .returned (.bool true) ∧ ∃ o n, w2 = ext w' o n) := fun w' h => by
    have := right_any x _ w' h hwx; rw [hx] at this; exact this
  have cS : ∀ w', FS w' (.slice (some ⟨a, 0, none⟩) m.ws.length ca) m.ws → Calls Try.prog 151 #[.int .i64 3, .agg #[.slice (some ⟨a, 0, none⟩) m.ws.length ca, .int .i64 m.off, .int .i64 m.rows, .int .i64 m.cols, .int .i64 m.ld], .int .i64 x.n] w' (fun e w2 => e = .returned (.int .i64 0) ∧ ∃ o n, w2 = ext w' o n) := fun w' h => by
    have := square_any 3 m _ x.n w' h hwm
    have e : sqE 3 m x.n = 0 := by
      unfold sqE
      rw [if_neg (fun h => h.elim (by omega) (fun h => h.elim (by omega) (fun h => by rw [hm] at h; cases h))), if_pos ⟨hsq, hn⟩]
    rw [e] at this
    exact this
  have cM : ∀ w', FS w' (.slice (some ⟨g, 0, none⟩) x.ws.length cg) x.ws → FS w' (.slice (some ⟨a, 0, none⟩) m.ws.length ca) m.ws → Plain w' g → Plain w' a → Calls Try.prog 136 #[.agg #[.slice (some ⟨g, 0, none⟩) x.ws.length cg, .int .i64 x.off, .int .i64 1, .int .i64 x.n, .int .i64 x.inc], .agg #[.slice (some ⟨a, 0, none⟩) m.ws.length ca, .int .i64 m.off, .int .i64 m.rows, .int .i64 m.cols, .int .i64 m.ld]] w' (fun e w2 => e = .returned (.bool false) ∧ ∃ o n, w2 = ext w' o n) := fun w' h1 h2 p1 p2 => by
    have := meetM_any (rowM x) m g a cg ca w' h1 h2 p1 p2 (rowM_wf hwx) hwm hlx hlm
    rw [hmeet] at this; exact this
  have cZ : ∀ w', FS w' (.slice (some ⟨a, 0, none⟩) m.ws.length ca) m.ws → Calls Try.prog 153 #[.int .i64 3, .agg #[.slice (some ⟨a, 0, none⟩) m.ws.length ca, .int .i64 m.off, .int .i64 m.rows, .int .i64 m.cols, .int .i64 m.ld]] w' (fun e w2 => e = .returned (.bool false) ∧ ∃ o n, w2 = ext w' o n) := fun w' h => by
    have := zero_any 3 m _ w' h hm hwm hsq hr hlm; rw [hz] at this; exact this
  have Hx := hid hx
  have Hn := hid hn
  have HM := hid hsq
  clear hx hn hm hwm hwx hsq hmeet hz
  go_enter Try.func79, Try.ntmps79
  refine seq_stop ?_
  go_wp2
  refine stop_go (fun W hW => ?_)
  have s1 : w.heap.size < W.heap.size := by rw [hW]; simp only [World.size_alloc]; omega
  have b1 : ∀ i, W.cell? ⟨w.heap.size, i, none⟩ = (#[.slice (some ⟨a, 0, none⟩) m.ws.length ca, .int .i64 m.off, .int .i64 m.rows, .int .i64 m.cols, .int .i64 m.ld] : Array Value)[i]? := by intro i; rw [hW]; go_simp
  have s2 : w.heap.size + 1 < W.heap.size := by rw [hW]; simp only [World.size_alloc]; omega
  have b2 : ∀ i, W.cell? ⟨w.heap.size + 1, i, none⟩ = (#[.slice (some ⟨g, 0, none⟩) x.ws.length cg, .int .i64 x.off, .int .i64 x.n, .int .i64 x.inc] : Array Value)[i]? := by intro i; rw [hW]; go_simp
  have g0 : Grew w W := by rw [hW]; exact ((Grew.refl _).alloc _).alloc _
  clear hW
  have hDW := hD.grew g0
  have hXW := hX.grew g0
  go_wp2_with (first | (go_at_call 135; ((with_reducible refine (cR _ ?_).mono ?_); (focus (first | (with_reducible assumption) | (with_reducible refine FS.ext ?_ _ _; with_reducible assumption) | (with_reducible refine IS.ext ?_ _ _; with_reducible assumption) | (refine hDu _ ?_; with_reducible assumption) | (refine hOu _ ?_; with_reducible assumption) | (refine hDa _ ?_; with_reducible assumption) | (refine hDb _ ?_; with_reducible assumption) | (refine hDc _ ?_; with_reducible assumption) | (refine hDd _ ?_; with_reducible assumption) | (refine FW.fs ?_ (by omega) _; with_reducible assumption) | (refine WS.fs ?_; with_reducible assumption) | (refine FW.fs ?_ (by omega) _; assumption) | omega | assumption)); rintro e w1 ⟨rfl, oa, na, rfl⟩)) | (go_at_call 151; ((with_reducible refine (cS _ ?_).mono ?_); (focus (first | (with_reducible assumption) | (with_reducible refine FS.ext ?_ _ _; with_reducible assumption) | (with_reducible refine IS.ext ?_ _ _; with_reducible assumption) | (refine hDu _ ?_; with_reducible assumption) | (refine hOu _ ?_; with_reducible assumption) | (refine hDa _ ?_; with_reducible assumption) | (refine hDb _ ?_; with_reducible assumption) | (refine hDc _ ?_; with_reducible assumption) | (refine hDd _ ?_; with_reducible assumption) | (refine FW.fs ?_ (by omega) _; with_reducible assumption) | (refine WS.fs ?_; with_reducible assumption) | (refine FW.fs ?_ (by omega) _; assumption) | omega | assumption)); rintro e w1 ⟨rfl, ob, nb, rfl⟩)))
  refine wp_region_R (Grew W) [] [(0,0), (0,2), (1,1), (1,3), (0,4)] (by kernel_rfl) (by kernel_rfl) (fun _ _ _ _ h _ => h) (by first | exact ⟨_, _, ext_drew⟩ | exact ⟨_, _, drew_ext0⟩ | (show Grew _ _; repeat (first | (with_reducible exact Grew.refl _) | (with_reducible assumption) | (with_reducible exact Grew.same_o) | (with_reducible exact Grew.app_o) | (with_reducible refine Grew.ext ?_ _ _) | (with_reducible refine Grew.alloc ?_ _) | ((with_reducible refine Grew.setCell ?_ ?_ _); rotate_left; (focus (dsimp only; first | omega | (simp only [size_ext, World.size_alloc, Array.size_append]; omega)))) | (with_reducible refine Grew.drewN ?_ _) | (with_reducible refine Grew.drew ?_)))) ?_
  go_wp2_with (first | ((with_reducible refine wpR_id ?_); first | (refine wpR_take (v := ?_) rfl rfl ?_ ?_; rotate_left; (focus (rintro w' ⟨o', n', rfl⟩; go_simp; try with_reducible rfl)); simp only [Act.put, List.setIfInBounds_toArray, List.set_cons_zero, List.set_cons_succ]) | (refine wpR_pure (v := ?_) rfl rfl ?_ ?_; rotate_left; (focus (intro w'; go_simp; try with_reducible rfl)); simp only [Act.put, List.setIfInBounds_toArray, List.set_cons_zero, List.set_cons_succ]) | (refine wpR_takeG (v := ?_) rfl rfl rfl rfl rfl ?_ ?_; rotate_left; (focus (rintro w' ⟨o', n', rfl⟩; go_simp; try with_reducible rfl)); simp only [Act.put, List.setIfInBounds_toArray, List.set_cons_zero, List.set_cons_succ]) | (refine wpR_skip rfl rfl rfl rfl rfl rfl ?_; simp only [Act.put, List.setIfInBounds_toArray, List.set_cons_zero, List.set_cons_succ]) | (refine wpR_skipU rfl rfl rfl rfl rfl ?_; simp only [Act.put, List.setIfInBounds_toArray, List.set_cons_zero, List.set_cons_succ]) | (refine wpR_do rfl rfl (fun K hK => ?_)) | (refine wpR_doG rfl rfl rfl rfl rfl (fun K hK => ?_)) | (refine wpR_last rfl rfl (fun K hK => ?_)) | (refine wpR_nil ?_)) | ((with_reducible refine wpR_go ?_ ?_); (focus exact ⟨_, _, rfl⟩)) | ((with_reducible refine upon_id ?_); refine upon_fop rfl (by assumption) (by assumption) ?_; intro rr nn hr) | (go_at_call 152; ((with_reducible refine (trow_any x _ _ _ _).mono ?_); rintro e w1 ⟨rfl, oc, nc, rfl⟩)) | (go_at_call 136; ((with_reducible refine (cM _ ?_ ?_ ((FW.plain hF).grew (by (show Grew _ _; repeat (first | (with_reducible exact Grew.refl _) | (with_reducible assumption) | (with_reducible exact Grew.same_o) | (with_reducible exact Grew.app_o) | (with_reducible refine Grew.ext ?_ _ _) | (with_reducible refine Grew.alloc ?_ _) | ((with_reducible refine Grew.setCell ?_ ?_ _); rotate_left; (focus (dsimp only; first | omega | (simp only [size_ext, World.size_alloc, Array.size_append]; omega)))) | (with_reducible refine Grew.drewN ?_ _) | (with_reducible refine Grew.drew ?_))))) (hPa.grew (by (show Grew _ _; repeat (first | (with_reducible exact Grew.refl _) | (with_reducible assumption) | (with_reducible exact Grew.same_o) | (with_reducible exact Grew.app_o) | (with_reducible refine Grew.ext ?_ _ _) | (with_reducible refine Grew.alloc ?_ _) | ((with_reducible refine Grew.setCell ?_ ?_ _); rotate_left; (focus (dsimp only; first | omega | (simp only [size_ext, World.size_alloc, Array.size_append]; omega)))) | (with_reducible refine Grew.drewN ?_ _) | (with_reducible refine Grew.drew ?_)))))).mono ?_); (focus (first | (with_reducible assumption) | (with_reducible refine FS.ext ?_ _ _; with_reducible assumption) | (with_reducible refine IS.ext ?_ _ _; with_reducible assumption) | (refine hDu _ ?_; with_reducible assumption) | (refine hOu _ ?_; with_reducible assumption) | (refine hDa _ ?_; with_reducible assumption) | (refine hDb _ ?_; with_reducible assumption) | (refine hDc _ ?_; with_reducible assumption) | (refine hDd _ ?_; with_reducible assumption) | (refine FW.fs ?_ (by omega) _; with_reducible assumption) | (refine WS.fs ?_; with_reducible assumption) | (refine FW.fs ?_ (by omega) _; assumption) | omega | assumption)); (focus (first | (with_reducible assumption) | (with_reducible refine FS.ext ?_ _ _; with_reducible assumption) | (with_reducible refine IS.ext ?_ _ _; with_reducible assumption) | (refine hDu _ ?_; with_reducible assumption) | (refine hOu _ ?_; with_reducible assumption) | (refine hDa _ ?_; with_reducible assumption) | (refine hDb _ ?_; with_reducible assumption) | (refine hDc _ ?_; with_reducible assumption) | (refine hDd _ ?_; with_reducible assumption) | (refine FW.fs ?_ (by omega) _; with_reducible assumption) | (refine WS.fs ?_; with_reducible assumption) | (refine FW.fs ?_ (by omega) _; assumption) | omega | assumption)); rintro e w1 ⟨rfl, od, nd, rfl⟩)) | (go_at_call 153; ((with_reducible refine (cZ _ ?_).mono ?_); (focus (first | (with_reducible assumption) | (with_reducible refine FS.ext ?_ _ _; with_reducible assumption) | (with_reducible refine IS.ext ?_ _ _; with_reducible assumption) | (refine hDu _ ?_; with_reducible assumption) | (refine hOu _ ?_; with_reducible assumption) | (refine hDa _ ?_; with_reducible assumption) | (refine hDb _ ?_; with_reducible assumption) | (refine hDc _ ?_; with_reducible assumption) | (refine hDd _ ?_; with_reducible assumption) | (refine FW.fs ?_ (by omega) _; with_reducible assumption) | (refine WS.fs ?_; with_reducible assumption) | (refine FW.fs ?_ (by omega) _; assumption) | omega | assumption)); rintro e w1 ⟨rfl, oe, ne, rfl⟩)))
  refine wp_region_R (Grew W) [] [(0,0), (0,1), (0,2), (0,3), (0,4), (1,5), (1,6), (0,7)] (by kernel_rfl) (by kernel_rfl) (fun _ _ _ _ h _ => h) (by first | exact ⟨_, _, ext_drew⟩ | exact ⟨_, _, drew_ext0⟩ | (show Grew _ _; repeat (first | (with_reducible exact Grew.refl _) | (with_reducible assumption) | (with_reducible exact Grew.same_o) | (with_reducible exact Grew.app_o) | (with_reducible refine Grew.ext ?_ _ _) | (with_reducible refine Grew.alloc ?_ _) | ((with_reducible refine Grew.setCell ?_ ?_ _); rotate_left; (focus (dsimp only; first | omega | (simp only [size_ext, World.size_alloc, Array.size_append]; omega)))) | (with_reducible refine Grew.drewN ?_ _) | (with_reducible refine Grew.drew ?_)))) ?_
  go_wp2_with (first | ((with_reducible refine wpR_id ?_); first | (refine wpR_take (v := ?_) rfl rfl ?_ ?_; rotate_left; (focus (rintro w' ⟨o', n', rfl⟩; go_simp; try with_reducible rfl)); simp only [Act.put, List.setIfInBounds_toArray, List.set_cons_zero, List.set_cons_succ]) | (refine wpR_pure (v := ?_) rfl rfl ?_ ?_; rotate_left; (focus (intro w'; go_simp; try with_reducible rfl)); simp only [Act.put, List.setIfInBounds_toArray, List.set_cons_zero, List.set_cons_succ]) | (refine wpR_takeG (v := ?_) rfl rfl rfl rfl rfl ?_ ?_; rotate_left; (focus (rintro w' ⟨o', n', rfl⟩; go_simp; try with_reducible rfl)); simp only [Act.put, List.setIfInBounds_toArray, List.set_cons_zero, List.set_cons_succ]) | (refine wpR_skip rfl rfl rfl rfl rfl rfl ?_; simp only [Act.put, List.setIfInBounds_toArray, List.set_cons_zero, List.set_cons_succ]) | (refine wpR_skipU rfl rfl rfl rfl rfl ?_; simp only [Act.put, List.setIfInBounds_toArray, List.set_cons_zero, List.set_cons_succ]) | (refine wpR_do rfl rfl (fun K hK => ?_)) | (refine wpR_doG rfl rfl rfl rfl rfl (fun K hK => ?_)) | (refine wpR_last rfl rfl (fun K hK => ?_)) | (refine wpR_nil ?_)) | ((with_reducible refine wpR_go ?_ ?_); (focus (show Grew _ _; repeat (first | (with_reducible exact Grew.refl _) | (with_reducible assumption) | (with_reducible exact Grew.same_o) | (with_reducible exact Grew.app_o) | (with_reducible refine Grew.ext ?_ _ _) | (with_reducible refine Grew.alloc ?_ _) | ((with_reducible refine Grew.setCell ?_ ?_ _); rotate_left; (focus (dsimp only; first | omega | (simp only [size_ext, World.size_alloc, Array.size_append]; omega)))) | (with_reducible refine Grew.drewN ?_ _) | (with_reducible refine Grew.drew ?_))))) | ((with_reducible refine upon_id ?_); refine upon_fop rfl (by assumption) (by assumption) ?_; intro rr nn hr))
  refine name_any (fun V hV => ?_)
  have gV : Grew W V := by rw [← hV]; (show Grew _ _; repeat (first | (with_reducible exact Grew.refl _) | (with_reducible assumption) | (with_reducible exact Grew.same_o) | (with_reducible exact Grew.app_o) | (with_reducible refine Grew.ext ?_ _ _) | (with_reducible refine Grew.alloc ?_ _) | ((with_reducible refine Grew.setCell ?_ ?_ _); rotate_left; (focus (dsimp only; first | omega | (simp only [size_ext, World.size_alloc, Array.size_append]; omega)))) | (with_reducible refine Grew.drewN ?_ _) | (with_reducible refine Grew.drew ?_)))
  have gw : Grew w V := g0.trans gV
  have zW := g0.below.size
  have cT : ∀ i, V.cell? ⟨W.heap.size + (oa.size + (ob.size + (oc.size + (od.size + oe.size)))), i, none⟩ = (#[.slice (some ⟨a, 0, none⟩) m.ws.length ca, .int .i64 m.off, .int .i64 m.rows, .int .i64 m.cols, .int .i64 m.ld, .slice (some ⟨g, 0, none⟩) x.ws.length cg, .int .i64 x.off, .int .i64 x.n, .int .i64 x.inc] : Array Value)[i]? := by subst hV; intro i; go_simp
  have kT : W.heap.size + (oa.size + (ob.size + (oc.size + (od.size + oe.size)))) < V.heap.size := by rw [← hV]; simp only [World.size_alloc, size_ext, Array.size_append]; omega
  obtain ⟨T, hT⟩ : ∃ T, W.heap.size + (oa.size + (ob.size + (oc.size + (od.size + oe.size)))) = T := ⟨_, rfl⟩
  have zT : W.heap.size ≤ T := by omega
  rw [hT] at cT kT
  simp only [hT]
  have hFV : FW V g x.ws := hF.grew gw
  have cU : ∀ w', But V [g] w' → ∀ i, w'.cell? ⟨T, i, none⟩ = (#[.slice (some ⟨a, 0, none⟩) m.ws.length ca, .int .i64 m.off, .int .i64 m.rows, .int .i64 m.cols, .int .i64 m.ld, .slice (some ⟨g, 0, none⟩) x.ws.length cg, .int .i64 x.off, .int .i64 x.n, .int .i64 x.inc] : Array Value)[i]? := fun w' h i => (h.cell kT (by simp; omega)).trans (cT i)
  have bw : ∀ w', But V [g] w' → But w [g] w' := fun w' h => ((But.refl w [g]).grew gw).trans h (fun _ hb => .inl hb)
  have hnl := VecM.right_nle Hx.out hlx
  clear hV hT cT cR cS cM cZ b1 b2
  have r0 : IntKind.i64.wrap (x.n - 1) = x.n - 1 := IntWalk.i64_in _ (by omega)
  go_loopw [14] (fun c wr => ∃ (p : Nat) (L : List Nat), (p : Int) ≤ x.n ∧ c = .int .i64 (x.n - 1 - p) ∧ But V [g] wr ∧ FW wr g L ∧ VH x L (rowAll3 m.num x.n.toNat x.num p)) (fun c _ => (intOf c + 1).toNat)
  case atStart => exact ⟨0, x.ws, hnn.1, by (simp; first | exact r0 | simpa using r0 | (unfold wrap64; omega)), But.refl _ _, hFV, VH.start x⟩
  case round =>
    obtain ⟨p, L, hj, rfl, hB, hL, hS⟩ := hrel
    by_cases hlt : 0 ≤ x.n - 1 - p
    · obtain ⟨i, hi⟩ : ∃ i : Nat, x.n - 1 - p = i := ⟨(x.n - 1 - p).toNat, by omega⟩
      have hi' := hid hi
      rw [hi] at hlt
      simp only [hi]
      have hlt' := hid hlt
      have hix : (i : Int) < x.n := by omega
      clear hi
      go_wp2
      go_loopw [15] (fun c wr => ∃ (t : Nat) (L : List Nat), (i : Int) + 1 + t ≤ x.n ∧ c = .int .i64 ((i : Int) + 1 + t) ∧ But V [g] wr ∧ FW wr g L ∧ VH x L (rowIn3 m.num (rowAll3 m.num x.n.toNat x.num p) i t)) (fun c _ => (x.n - intOf c).toNat)
      case atStart => exact ⟨0, L, by have := hi'.out; omega, by go_num, hB, hL, hS⟩
      case round =>
        obtain ⟨t, L2, ht, rfl, hB2, hL2, hS2⟩ := hrel
        by_cases hl2 : (i : Int) + 1 + t < x.n
        · have hA : ∀ w' L s, But V [g] w' → FW w' g L → VH x L s → Calls Try.prog 155 #[.agg #[.slice (some ⟨a, 0, none⟩) m.ws.length ca, .int .i64 m.off, .int .i64 m.rows, .int .i64 m.cols, .int .i64 m.ld, .slice (some ⟨g, 0, none⟩) x.ws.length cg, .int .i64 x.off, .int .i64 x.n, .int .i64 x.inc], .int .i64 ((i : Int) + 1 + t), .int .i64 i] w' (fun e w2 => ∃ r, e = .returned (.float .f64 r) ∧ IsF r (m.num (i + 1 + t) i) ∧ ∃ o n, w2 = ext w' o n) := fun w' L s h1 h2 h3 => by
            have := hat w' L s (bw _ h1) h2 h3 (i + 1 + t) i (by have := Hn.out; omega) (by have := Hn.out; omega)
            push_cast at this; exact this
          have hB3 : ∀ w' r, FW w' g L2 → IsF r (m.num (i + 1 + t) i) → Calls Try.prog 154 #[.agg #[.slice (some ⟨a, 0, none⟩) m.ws.length ca, .int .i64 m.off, .int .i64 m.rows, .int .i64 m.cols, .int .i64 m.ld, .slice (some ⟨g, 0, none⟩) x.ws.length cg, .int .i64 x.off, .int .i64 x.n, .int .i64 x.inc], .int .i64 i, .int .i64 ((i : Int) + 1 + t), .float .f64 r] w' (fun e w2 => e = .returned (.tuple #[]) ∧ Wrote w' w2 g (L2.set (x.place i) (fsub (L2.getD (x.place i) 0) (fmul (m.num (i + 1 + t) i) (L2.getD (x.place (i + 1 + t)) 0))))) := fun w' r h1 h2 => by
            have := sless_any m x (.slice (some ⟨a, 0, none⟩) m.ws.length ca) g cg i (i + 1 + t) r _ L2 w' h1 hS2.len Hx.out (by omega) (by omega) hlx h2
            push_cast at this; exact this
          have tT2 := cU _ hB2
          go_wp2
          refine wp_region_R (But V [g]) [] [(0,0), (0,1), (0,2), (0,3), (0,4), (0,5), (1,6), (1,7)] (by kernel_rfl) (by kernel_rfl) (fun _ _ _ _ h _ => h) (hB2.grew ((Grew.refl _).drew)) ?_
          refine name_any (fun V6 hV6 => ?_)
          have B6 : But V [g] V6 := by rw [← hV6]; exact hB2.grew ((Grew.refl _).drew)
          have F6 : FW V6 g L2 := by rw [← hV6]; exact hL2.grew ((Grew.refl _).drew)
          clear hV6
          go_wp2_with (first | ((with_reducible refine wpR_id ?_); first | (refine wpR_take (v := ?_) rfl rfl ?_ ?_; rotate_left; (focus (intro w' hw'; go_simp; try with_reducible rfl)); simp only [Act.put, List.setIfInBounds_toArray, List.set_cons_zero, List.set_cons_succ]) | (refine wpR_pure (v := ?_) rfl rfl ?_ ?_; rotate_left; (focus (intro w'; go_simp; try with_reducible rfl)); simp only [Act.put, List.setIfInBounds_toArray, List.set_cons_zero, List.set_cons_succ]) | (refine wpR_takeG (v := ?_) rfl rfl rfl rfl rfl ?_ ?_; rotate_left; (focus (intro w' hw'; go_simp; try with_reducible rfl)); simp only [Act.put, List.setIfInBounds_toArray, List.set_cons_zero, List.set_cons_succ]) | (refine wpR_skip rfl rfl rfl rfl rfl rfl ?_; simp only [Act.put, List.setIfInBounds_toArray, List.set_cons_zero, List.set_cons_succ]) | (refine wpR_skipU rfl rfl rfl rfl rfl ?_; simp only [Act.put, List.setIfInBounds_toArray, List.set_cons_zero, List.set_cons_succ]) | (refine wpR_do rfl rfl (fun K hK => ?_)) | (refine wpR_doG rfl rfl rfl rfl rfl (fun K hK => ?_)) | (refine wpR_last rfl rfl (fun K hK => ?_)) | (refine wpR_nil ?_)) | ((with_reducible refine wpR_go ?_ ?_); (focus (with_reducible assumption))) | ((with_reducible refine upon_id ?_); refine upon_fop rfl (by assumption) (by assumption) ?_; intro rr nn hr) | (go_at_call 155; ((with_reducible refine (hA _ L2 _ B6 F6 hS2).mono ?_); rintro e w1 ⟨r, rfl, hr, hw1⟩; (have B7 := B6.grew hw1; have F7 := F6.grew hw1))) | (go_at_call 154; ((with_reducible refine (hB3 _ _ F7 hr).mono ?_); rintro e w1 ⟨rfl, hw2⟩; (have B8 := B7.wrote hw2 (.inl (by simp)); have F8 := hw2.fw F7))))
          go_roundw
          case rel => exact ⟨t + 1, _, by omega, by go_num, B8, F8, hS2.less Hx.out (by omega) (by omega)⟩
          case measure => simp [intOf]; omega
        · have e : t = p := by have := hi'.out; omega
          go_wp2
          go_roundw
          case rel => exact ⟨p + 1, L2, by have := hi'.out; omega, by (have := hi'.out; go_num), hB2, hL2, by subst e; unfold rowAll3; rw [show x.n.toNat - 1 - t = i by have := hi'.out; omega]; exact hS2⟩
          case measure => (have := hi'.out; simp [intOf] <;> omega)
    · have e : p = x.n.toNat := by omega
      have hf := (hS.congr (t := solveF m.num x.n.toNat 3 x.num) (fun r hr => by subst e; unfold solveF; rw [if_neg (by decide), if_neg (by decide), if_pos rfl])).final Hx.out
      go_wp2
      go_ret
      exact ⟨rfl, bw _ hB, by rw [← hf]; exact hL⟩
end Go.Proofs.Ytcmggfpcbijcjaa
end
section
/-
  Contract: trsv.Solve, of a system that is solved (kind 4).
-/
set_option linter.unusedSimpArgs false
set_option linter.unusedVariables false
open Go Go.RowKit Sedge
namespace Go.Proofs.Ytcmggfpcbijcjaa
set_option maxRecDepth 100000 in
set_option maxHeartbeats 2000000 in
theorem solve_4 (m : MatM) (x : VecM) (a g ca cg : Nat) (w : World) (hD : FS w (.slice (some ⟨a, 0, none⟩) m.ws.length ca) m.ws) (hF : FW w g x.ws) (hPa : Plain w a) (hm : m.good = true) (hx : x.right = true) (hwm : m.wf) (hwx : x.wf)
    (hsq : m.rows = m.cols) (hn : m.rows = x.n) (hr : m.rows ≤ 1000) (hlm : m.ws.length ≤ 1000000) (hlx : x.ws.length ≤ 1000000) (hmeet : meetM (rowM x) m (decide (g = a)) = false) (hz : zeroTo 4 m m.rows.toNat = false)
    (hat : ∀ w' L s, But w [g] w' → FW w' g L → VH x L s → ∀ i j : Nat, (i : Int) < m.rows → (j : Int) < m.rows → Calls Try.prog 155 #[.agg #[.slice (some ⟨a, 0, none⟩) m.ws.length ca, .int .i64 m.off, .int .i64 m.rows, .int .i64 m.cols, .int .i64 m.ld, .slice (some ⟨g, 0, none⟩) x.ws.length cg, .int .i64 x.off, .int .i64 x.n, .int .i64 x.inc], .int .i64 i, .int .i64 j] w'
      (fun e w2 => ∃ r, e = .returned (.float .f64 r) ∧ IsF r (m.num i j) ∧ ∃ o n, w2 = ext w' o n)) :
   Calls Try.prog 79 #[.int .i64 4, .agg #[.slice (some ⟨a, 0, none⟩) m.ws.length ca, .int .i64 m.off, .int .i64 m.rows, .int .i64 m.cols, .int .i64 m.ld], .agg #[.slice (some ⟨g, 0, none⟩) x.ws.length cg, .int .i64 x.off, .int .i64 x.n, .int .i64 x.inc]] w
     (fun e w' => e = .returned (.int .i64 0) ∧ But w [g] w' ∧ FW w' g (VecMwrite x ((List.range x.n.toNat).map (solveF m.num x.n.toNat 4 x.num)))) := by
  have hX := hF.fs (by omega) cg
  have hltg := hF.lt
  have hnn := VecM.right_n hx
  have cR : ∀ w', FS w' (.slice (some ⟨g, 0, none⟩) x.ws.length cg) x.ws → Calls Try.prog 135 #[.agg #[.slice (some ⟨g, 0, none⟩) x.ws.length cg, .int .i64 x.off, .int .i64 x.n, .int .i64 x.inc]] w' (fun e w2 => e = .returned (.bool true) ∧ ∃ o n, w2 = ext w' o n) := fun w' h => by
    have := right_any x _ w' h hwx; rw [hx] at this; exact this
  have cS : ∀ w', FS w' (.slice (some ⟨a, 0, none⟩) m.ws.length ca) m.ws → Calls Try.prog 151 #[.int .i64 4, .agg #[.slice (some ⟨a, 0, none⟩) m.ws.length ca, .int .i64 m.off, .int .i64 m.rows, .int .i64 m.cols, .int .i64 m.ld], .int .i64 x.n] w' (fun e w2 => e = .returned (.int .i64 0) ∧ ∃ o n, w2 = ext w' o n) := fun w' h => by
    have := square_any 4 m _ x.n w' h hwm
    have e : sqE 4 m x.n = 0 := by
      unfold sqE
      rw [if_neg (fun h => h.elim (by omega) (fun h => h.elim (by omega) (fun h => by rw [hm] at h; cases h))), if_pos ⟨hsq, hn⟩]
    rw [e] at this
    exact this
  have cM : ∀ w', FS w' (.slice (some ⟨g, 0, none⟩) x.ws.length cg) x.ws → FS w' (.slice (some ⟨a, 0, none⟩) m.ws.length ca) m.ws → Plain w' g → Plain w' a → Calls Try.prog 136 #[.agg #[.slice (some ⟨g, 0, none⟩) x.ws.length cg, .int .i64 x.off, .int .i64 1, .int .i64 x.n, .int .i64 x.inc], .agg #[.slice (some ⟨a, 0, none⟩) m.ws.length ca, .int .i64 m.off, .int .i64 m.rows, .int .i64 m.cols, .int .i64 m.ld]] w' (fun e w2 => e = .returned (.bool false) ∧ ∃ o n, w2 = ext w' o n) := fun w' h1 h2 p1 p2 => by
    have := meetM_any (rowM x) m g a cg ca w' h1 h2 p1 p2 (rowM_wf hwx) hwm hlx hlm
    rw [hmeet] at this; exact this
  have cZ : ∀ w', FS w' (.slice (some ⟨a, 0, none⟩) m.ws.length ca) m.ws → Calls Try.prog 153 #[.int .i64 4, .agg #[.slice (some ⟨a, 0, none⟩) m.ws.length ca, .int .i64 m.off, .int .i64 m.rows, .int .i64 m.cols, .int .i64 m.ld]] w' (fun e w2 => e = .returned (.bool false) ∧ ∃ o n, w2 = ext w' o n) := fun w' h => by
    have := zero_any 4 m _ w' h hm hwm hsq hr hlm; rw [hz] at this; exact this
  have Hx := hid hx
  have Hn := hid hn
  have HM := hid hsq
  clear hx hn hm hwm hwx hsq hmeet hz
  go_enter Try.func79, Try.ntmps79
  refine seq_stop ?_
  go_wp2
  refine stop_go (fun W hW => ?_)
  have s1 : w.heap.size < W.heap.size := by rw [hW]; simp only [World.size_alloc]; omega
  have b1 : ∀ i, W.cell? ⟨w.heap.size, i, none⟩ = (#[.slice (some ⟨a, 0, none⟩) m.ws.length ca, .int .i64 m.off, .int .i64 m.rows, .int .i64 m.cols, .int .i64 m.ld] : Array Value)[i]? := by intro i; rw [hW]; go_simp
  have s2 : w.heap.size + 1 < W.heap.size := by rw [hW]; simp only [World.size_alloc]; omega
  have b2 : ∀ i, W.cell? ⟨w.heap.size + 1, i, none⟩ = (#[.slice (some ⟨g, 0, none⟩) x.ws.length cg, .int .i64 x.off, .int .i64 x.n, .int .i64 x.inc] : Array Value)[i]? := by intro i; rw [hW]; go_simp
  have g0 : Grew w W := by rw [hW]; exact ((Grew.refl _).alloc _).alloc _
  clear hW
  have hDW := hD.grew g0
  have hXW := hX.grew g0
  go_wp2_with (first | (go_at_call 135; ((with_reducible refine (cR _ ?_).mono ?_); (focus (first | (with_reducible assumption) | (with_reducible refine FS.ext ?_ _ _; with_reducible assumption) | (with_reducible refine IS.ext ?_ _ _; with_reducible assumption) | (refine hDu _ ?_; with_reducible assumption) | (refine hOu _ ?_; with_reducible assumption) | (refine hDa _ ?_; with_reducible assumption) | (refine hDb _ ?_; with_reducible assumption) | (refine hDc _ ?_; with_reducible assumption) | (refine hDd _ ?_; with_reducible assumption) | (refine FW.fs ?_ (by omega) _; with_reducible assumption) | (refine WS.fs ?_; with_reducible assumption) | (refine FW.fs ?_ (by omega) _; assumption) | omega | assumption)); rintro e w1 ⟨rfl, oa, na, rfl⟩)) | (go_at_call 151; ((with_reducible refine (cS _ ?_).mono ?_); (focus (first | (with_reducible assumption) | (with_reducible refine FS.ext ?_ _ _; with_reducible assumption) | (with_reducible refine IS.ext ?_ _ _; with_reducible assumption) | (refine hDu _ ?_; with_reducible assumption) | (refine hOu _ ?_; with_reducible assumption) | (refine hDa _ ?_; with_reducible assumption) | (refine hDb _ ?_; with_reducible assumption) | (refine hDc _ ?_; with_reducible assumption) | (refine hDd _ ?_; with_reducible assumption) | (refine FW.fs ?_ (by omega) _; with_reducible assumption) | (refine WS.fs ?_; with_reducible assumption) | (refine FW.fs ?_ (by omega) _; assumption) | omega | assumption)); rintro e w1 ⟨rfl, ob, nb, rfl⟩)))
  refine wp_region_R (Grew W) [] [(0,0), (0,2), (1,1), (1,3), (0,4)] (by kernel_rfl) (by kernel_rfl) (fun _ _ _ _ h _ => h) (by first | exact ⟨_, _, ext_drew⟩ | exact ⟨_, _, drew_ext0⟩ | (show Grew _ _; repeat (first | (with_reducible exact Grew.refl _) | (with_reducible assumption) | (with_reducible exact Grew.same_o) | (with_reducible exact Grew.app_o) | (with_reducible refine Grew.ext ?_ _ _) | (with_reducible refine Grew.alloc ?_ _) | ((with_reducible refine Grew.setCell ?_ ?_ _); rotate_left; (focus (dsimp only; first | omega | (simp only [size_ext, World.size_alloc, Array.size_append]; omega)))) | (with_reducible refine Grew.drewN ?_ _) | (with_reducible refine Grew.drew ?_)))) ?_
  go_wp2_with (first | ((with_reducible refine wpR_id ?_); first | (refine wpR_take (v := ?_) rfl rfl ?_ ?_; rotate_left; (focus (rintro w' ⟨o', n', rfl⟩; go_simp; try with_reducible rfl)); simp only [Act.put, List.setIfInBounds_toArray, List.set_cons_zero, List.set_cons_succ]) | (refine wpR_pure (v := ?_) rfl rfl ?_ ?_; rotate_left; (focus (intro w'; go_simp; try with_reducible rfl)); simp only [Act.put, List.setIfInBounds_toArray, List.set_cons_zero, List.set_cons_succ]) | (refine wpR_takeG (v := ?_) rfl rfl rfl rfl rfl ?_ ?_; rotate_left; (focus (rintro w' ⟨o', n', rfl⟩; go_simp; try with_reducible rfl)); simp only [Act.put, List.setIfInBounds_toArray, List.set_cons_zero, List.set_cons_succ]) | (refine wpR_skip rfl rfl rfl rfl rfl rfl ?_; simp only [Act.put, List.setIfInBounds_toArray, List.set_cons_zero, List.set_cons_succ]) | (refine wpR_skipU rfl rfl rfl rfl rfl ?_; simp only [Act.put, List.setIfInBounds_toArray, List.set_cons_zero, List.set_cons_succ]) | (refine wpR_do rfl rfl (fun K hK => ?_)) | (refine wpR_doG rfl rfl rfl rfl rfl (fun K hK => ?_)) | (refine wpR_last rfl rfl (fun K hK => ?_)) | (refine wpR_nil ?_)) | ((with_reducible refine wpR_go ?_ ?_); (focus exact ⟨_, _, rfl⟩)) | ((with_reducible refine upon_id ?_); refine upon_fop rfl (by assumption) (by assumption) ?_; intro rr nn hr) | (go_at_call 152; ((with_reducible refine (trow_any x _ _ _ _).mono ?_); rintro e w1 ⟨rfl, oc, nc, rfl⟩)) | (go_at_call 136; ((with_reducible refine (cM _ ?_ ?_ ((FW.plain hF).grew (by (show Grew _ _; repeat (first | (with_reducible exact Grew.refl _) | (with_reducible assumption) | (with_reducible exact Grew.same_o) | (with_reducible exact Grew.app_o) | (with_reducible refine Grew.ext ?_ _ _) | (with_reducible refine Grew.alloc ?_ _) | ((with_reducible refine Grew.setCell ?_ ?_ _); rotate_left; (focus (dsimp only; first | omega | (simp only [size_ext, World.size_alloc, Array.size_append]; omega)))) | (with_reducible refine Grew.drewN ?_ _) | (with_reducible refine Grew.drew ?_))))) (hPa.grew (by (show Grew _ _; repeat (first | (with_reducible exact Grew.refl _) | (with_reducible assumption) | (with_reducible exact Grew.same_o) | (with_reducible exact Grew.app_o) | (with_reducible refine Grew.ext ?_ _ _) | (with_reducible refine Grew.alloc ?_ _) | ((with_reducible refine Grew.setCell ?_ ?_ _); rotate_left; (focus (dsimp only; first | omega | (simp only [size_ext, World.size_alloc, Array.size_append]; omega)))) | (with_reducible refine Grew.drewN ?_ _) | (with_reducible refine Grew.drew ?_)))))).mono ?_); (focus (first | (with_reducible assumption) | (with_reducible refine FS.ext ?_ _ _; with_reducible assumption) | (with_reducible refine IS.ext ?_ _ _; with_reducible assumption) | (refine hDu _ ?_; with_reducible assumption) | (refine hOu _ ?_; with_reducible assumption) | (refine hDa _ ?_; with_reducible assumption) | (refine hDb _ ?_; with_reducible assumption) | (refine hDc _ ?_; with_reducible assumption) | (refine hDd _ ?_; with_reducible assumption) | (refine FW.fs ?_ (by omega) _; with_reducible assumption) | (refine WS.fs ?_; with_reducible assumption) | (refine FW.fs ?_ (by omega) _; assumption) | omega | assumption)); (focus (first | (with_reducible assumption) | (with_reducible refine FS.ext ?_ _ _; with_reducible assumption) | (with_reducible refine IS.ext ?_ _ _; with_reducible assumption) | (refine hDu _ ?_; with_reducible assumption) | (refine hOu _ ?_; with_reducible assumption) | (refine hDa _ ?_; with_reducible assumption) | (refine hDb _ ?_; with_reducible assumption) | (refine hDc _ ?_; with_reducible assumption) | (refine hDd _ ?_; with_reducible assumption) | (refine FW.fs ?_ (by omega) _; with_reducible assumption) | (refine WS.fs ?_; with_reducible assumption) | (refine FW.fs ?_ (by omega) _; assumption) | omega | assumption)); rintro e w1 ⟨rfl, od, nd, rfl⟩)) | (go_at_call 153; ((with_reducible refine (cZ _ ?_).mono ?_); (focus (first | (with_reducible assumption) | (with_reducible refine FS.ext ?_ _ _; with_reducible assumption) | (with_reducible refine IS.ext ?_ _ _; with_reducible assumption) | (refine hDu _ ?_; with_reducible assumption) | (refine hOu _ ?_; with_reducible assumption) | (refine hDa _ ?_; with_reducible assumption) | (refine hDb _ ?_; with_reducible assumption) | (refine hDc _ ?_; with_reducible assumption) | (refine hDd _ ?_; with_reducible assumption) | (refine FW.fs ?_ (by omega) _; with_reducible assumption) | (refine WS.fs ?_; with_reducible assumption) | (refine FW.fs ?_ (by omega) _; assumption) | omega | assumption)); rintro e w1 ⟨rfl, oe, ne, rfl⟩)))
  refine wp_region_R (Grew W) [] [(0,0), (0,1), (0,2), (0,3), (0,4), (1,5), (1,6), (0,7)] (by kernel_rfl) (by kernel_rfl) (fun _ _ _ _ h _ => h) (by first | exact ⟨_, _, ext_drew⟩ | exact ⟨_, _, drew_ext0⟩ | (show Grew _ _; repeat (first | (with_reducible exact Grew.refl _) | (with_reducible assumption) | (with_reducible exact Grew.same_o) | (with_reducible exact Grew.app_o) | (with_reducible refine Grew.ext ?_ _ _) | (with_reducible refine Grew.alloc ?_ _) | ((with_reducible refine Grew.setCell ?_ ?_ _); rotate_left; (focus (dsimp only; first | omega | (simp only [size_ext, World.size_alloc, Array.size_append]; omega)))) | (with_reducible refine Grew.drewN ?_ _) | (with_reducible refine Grew.drew ?_)))) ?_
  go_wp2_with (first | ((with_reducible refine wpR_id ?_); first | (refine wpR_take (v := ?_) rfl rfl ?_ ?_; rotate_left; (focus (rintro w' ⟨o', n', rfl⟩; go_simp; try with_reducible rfl)); simp only [Act.put, List.setIfInBounds_toArray, List.set_cons_zero, List.set_cons_succ]) | (refine wpR_pure (v := ?_) rfl rfl ?_ ?_; rotate_left; (focus (intro w'; go_simp; try with_reducible rfl)); simp only [Act.put, List.setIfInBounds_toArray, List.set_cons_zero, List.set_cons_succ]) | (refine wpR_takeG (v := ?_) rfl rfl rfl rfl rfl ?_ ?_; rotate_left; (focus (rintro w' ⟨o', n', rfl⟩; go_simp; try with_reducible rfl)); simp only [Act.put, List.setIfInBounds_toArray, List.set_cons_zero, List.set_cons_succ]) | (refine wpR_skip rfl rfl rfl rfl rfl rfl ?_; simp only [Act.put, List.setIfInBounds_toArray, List.set_cons_zero, List.set_cons_succ]) | (refine wpR_skipU rfl rfl rfl rfl rfl ?_; simp only [Act.put, List.setIfInBounds_toArray, List.set_cons_zero, List.set_cons_succ]) | (refine wpR_do rfl rfl (fun K hK => ?_)) | (refine wpR_doG rfl rfl rfl rfl rfl (fun K hK => ?_)) | (refine wpR_last rfl rfl (fun K hK => ?_)) | (refine wpR_nil ?_)) | ((with_reducible refine wpR_go ?_ ?_); (focus (show Grew _ _; repeat (first | (with_reducible exact Grew.refl _) | (with_reducible assumption) | (with_reducible exact Grew.same_o) | (with_reducible exact Grew.app_o) | (with_reducible refine Grew.ext ?_ _ _) | (with_reducible refine Grew.alloc ?_ _) | ((with_reducible refine Grew.setCell ?_ ?_ _); rotate_left; (focus (dsimp only; first | omega | (simp only [size_ext, World.size_alloc, Array.size_append]; omega)))) | (with_reducible refine Grew.drewN ?_ _) | (with_reducible refine Grew.drew ?_))))) | ((with_reducible refine upon_id ?_); refine upon_fop rfl (by assumption) (by assumption) ?_; intro rr nn hr))
  refine name_any (fun V hV => ?_)
  have gV : Grew W V := by rw [← hV]; (show Grew _ _; repeat (first | (with_reducible exact Grew.refl _) | (with_reducible assumption) | (with_reducible exact Grew.same_o) | (with_reducible exact Grew.app_o) | (with_reducible refine Grew.ext ?_ _ _) | (with_reducible refine Grew.alloc ?_ _) | ((with_reducible refine Grew.setCell ?_ ?_ _); rotate_left; (focus (dsimp only; first | omega | (simp only [size_ext, World.size_alloc, Array.size_append]; omega)))) | (with_reducible refine Grew.drewN ?_ _) | (with_reducible refine Grew.drew ?_)))
  have gw : Grew w V := g0.trans gV
  have zW := g0.below.size
  have cT : ∀ i, V.cell? ⟨W.heap.size + (oa.size + (ob.size + (oc.size + (od.size + oe.size)))), i, none⟩ = (#[.slice (some ⟨a, 0, none⟩) m.ws.length ca, .int .i64 m.off, .int .i64 m.rows, .int .i64 m.cols, .int .i64 m.ld, .slice (some ⟨g, 0, none⟩) x.ws.length cg, .int .i64 x.off, .int .i64 x.n, .int .i64 x.inc] : Array Value)[i]? := by subst hV; intro i; go_simp
  have kT : W.heap.size + (oa.size + (ob.size + (oc.size + (od.size + oe.size)))) < V.heap.size := by rw [← hV]; simp only [World.size_alloc, size_ext, Array.size_append]; omega
  obtain ⟨T, hT⟩ : ∃ T, W.heap.size + (oa.size + (ob.size + (oc.size + (od.size + oe.size)))) = T := ⟨_, rfl⟩
  have zT : W.heap.size ≤ T := by omega
  rw [hT] at cT kT
  simp only [hT]
  have hFV : FW V g x.ws := hF.grew gw
  have cU : ∀ w', But V [g] w' → ∀ i, w'.cell? ⟨T, i, none⟩ = (#[.slice (some ⟨a, 0, none⟩) m.ws.length ca, .int .i64 m.off, .int .i64 m.rows, .int .i64 m.cols, .int .i64 m.ld, .slice (some ⟨g, 0, none⟩) x.ws.length cg, .int .i64 x.off, .int .i64 x.n, .int .i64 x.inc] : Array Value)[i]? := fun w' h i => (h.cell kT (by simp; omega)).trans (cT i)
  have bw : ∀ w', But V [g] w' → But w [g] w' := fun w' h => ((But.refl w [g]).grew gw).trans h (fun _ hb => .inl hb)
  have hnl := VecM.right_nle Hx.out hlx
  clear hV hT cT cR cS cM cZ b1 b2
  go_loopw [124] (fun c wr => ∃ (i : Nat) (L : List Nat), (i : Int) ≤ x.n ∧ c = .int .i64 i ∧ But V [g] wr ∧ FW wr g L ∧ VH x L (rowAll4 m.num x.num i)) (fun c _ => x.n.toNat - (intOf c).toNat)
  case atStart => exact ⟨0, x.ws, hnn.1, rfl, But.refl _ _, hFV, VH.start x⟩
  case round =>
    obtain ⟨i, L, hj, rfl, hB, hL, hS⟩ := hrel
    by_cases hlt : (i : Int) < x.n
    · have hlt' := hid hlt
      go_wp2
      go_loopw [128] (fun c wr => ∃ (t : Nat) (L : List Nat), (t : Int) ≤ i ∧ c = .int .i64 t ∧ But V [g] wr ∧ FW wr g L ∧ VH x L (rowIn4 m.num (rowAll4 m.num x.num i) i t)) (fun c _ => ((i : Int) - intOf c).toNat)
      case atStart => exact ⟨0, L, by omega, rfl, hB, hL, hS⟩
      case round =>
        obtain ⟨t, L2, ht, rfl, hB2, hL2, hS2⟩ := hrel
        by_cases hl2 : (t : Int) < i
        · have hB3 : ∀ w' r, FW w' g L2 → IsF r (m.num t i) → Calls Try.prog 154 #[.agg #[.slice (some ⟨a, 0, none⟩) m.ws.length ca, .int .i64 m.off, .int .i64 m.rows, .int .i64 m.cols, .int .i64 m.ld, .slice (some ⟨g, 0, none⟩) x.ws.length cg, .int .i64 x.off, .int .i64 x.n, .int .i64 x.inc], .int .i64 i, .int .i64 t, .float .f64 r] w' (fun e w2 => e = .returned (.tuple #[]) ∧ Wrote w' w2 g (L2.set (x.place i) (fsub (L2.getD (x.place i) 0) (fmul (m.num t i) (L2.getD (x.place t) 0))))) := fun w' r h1 h2 =>
            sless_any m x (.slice (some ⟨a, 0, none⟩) m.ws.length ca) g cg i t r _ L2 w' h1 hS2.len Hx.out hlt'.out (by have := hlt'.out; omega) hlx h2
          have tT2 := cU _ hB2
          go_wp2
          refine wp_region_R (But V [g]) [] [(0,0), (0,1), (0,2), (0,3), (0,4), (0,5), (1,6), (1,7)] (by kernel_rfl) (by kernel_rfl) (fun _ _ _ _ h _ => h) (hB2.grew ((Grew.refl _).drew)) ?_
          refine name_any (fun V6 hV6 => ?_)
          have B6 : But V [g] V6 := by rw [← hV6]; exact hB2.grew ((Grew.refl _).drew)
          have F6 : FW V6 g L2 := by rw [← hV6]; exact hL2.grew ((Grew.refl _).drew)
          clear hV6
          go_wp2_with (first | ((with_reducible refine wpR_id ?_); first | (refine wpR_take (v := ?_) rfl rfl ?_ ?_; rotate_left; (focus (intro w' hw'; go_simp; try with_reducible rfl)); simp only [Act.put, List.setIfInBounds_toArray, List.set_cons_zero, List.set_cons_succ]) | (refine wpR_pure (v := ?_) rfl rfl ?_ ?_; rotate_left; (focus (intro w'; go_simp; try with_reducible rfl)); simp only [Act.put, List.setIfInBounds_toArray, List.set_cons_zero, List.set_cons_succ]) | (refine wpR_takeG (v := ?_) rfl rfl rfl rfl rfl ?_ ?_; rotate_left; (focus (intro w' hw'; go_simp; try with_reducible rfl)); simp only [Act.put, List.setIfInBounds_toArray, List.set_cons_zero, List.set_cons_succ]) | (refine wpR_skip rfl rfl rfl rfl rfl rfl ?_; simp only [Act.put, List.setIfInBounds_toArray, List.set_cons_zero, List.set_cons_succ]) | (refine wpR_skipU rfl rfl rfl rfl rfl ?_; simp only [Act.put, List.setIfInBounds_toArray, List.set_cons_zero, List.set_cons_succ]) | (refine wpR_do rfl rfl (fun K hK => ?_)) | (refine wpR_doG rfl rfl rfl rfl rfl (fun K hK => ?_)) | (refine wpR_last rfl rfl (fun K hK => ?_)) | (refine wpR_nil ?_)) | ((with_reducible refine wpR_go ?_ ?_); (focus (with_reducible assumption))) | ((with_reducible refine upon_id ?_); refine upon_fop rfl (by assumption) (by assumption) ?_; intro rr nn hr) | (go_at_call 155; ((with_reducible refine (hat _ L2 _ (bw _ B6) F6 hS2 t i (by have := Hn.out; omega) (by have := Hn.out; omega)).mono ?_); rintro e w1 ⟨r, rfl, hr, hw1⟩; (have B7 := B6.grew hw1; have F7 := F6.grew hw1))) | (go_at_call 154; ((with_reducible refine (hB3 _ _ F7 hr).mono ?_); rintro e w1 ⟨rfl, hw2⟩; (have B8 := B7.wrote hw2 (.inl (by simp)); have F8 := hw2.fw F7))))
          go_roundw
          case rel => exact ⟨t + 1, _, by omega, by go_num, B8, F8, hS2.less Hx.out hlt'.out (by have := hlt'.out; omega)⟩
          case measure => simp [intOf]; omega
        · have e : t = i := by omega
          subst e
          have tT2 := cU _ hB2
          have hpi := VecM.right_place Hx.out hlt'.out
          obtain ⟨r0, hr0, hf0⟩ := hL2.get (i := x.place t) (by rw [hS2.len]; unfold VecM.place; omega)
          have hr1 := hr0
          unfold VecM.place at hr1
          have gl := hL2.lt
          have zB := hB2.size
          have kT2 : T < wr.heap.size := by omega
          have fz : ∀ i, wr.frozen? ⟨g, i, none⟩ = false := hL2.notFrozen
          have hnm : ∀ w', Calls Try.prog 156 #[.agg #[.slice (some ⟨a, 0, none⟩) m.ws.length ca, .int .i64 m.off, .int .i64 m.rows, .int .i64 m.cols, .int .i64 m.ld, .slice (some ⟨g, 0, none⟩) x.ws.length cg, .int .i64 x.off, .int .i64 x.n, .int .i64 x.inc], .int .i64 t] w' (fun e w2 => e = .returned (.pointer (some ⟨g, (x.off + t * x.inc).toNat, none⟩)) ∧ ∃ o n, w2 = ext w' o n) := fun w' => num_any m x (.slice (some ⟨a, 0, none⟩) m.ws.length ca) g cg t w' Hx.out hlt'.out hlx
          have hA : ∀ o n, Calls Try.prog 155 #[.agg #[.slice (some ⟨a, 0, none⟩) m.ws.length ca, .int .i64 m.off, .int .i64 m.rows, .int .i64 m.cols, .int .i64 m.ld, .slice (some ⟨g, 0, none⟩) x.ws.length cg, .int .i64 x.off, .int .i64 x.n, .int .i64 x.inc], .int .i64 t, .int .i64 t] (ext wr o n) (fun e w2 => ∃ r, e = .returned (.float .f64 r) ∧ IsF r (m.num t t) ∧ ∃ o' n', w2 = ext (ext wr o n) o' n') := fun o n => hat _ L2 _ (bw _ (hB2.grew ⟨_, _, rfl⟩)) (hL2.ext o n) hS2 t t (by have := Hn.out; have := hlt'.out; omega) (by have := Hn.out; have := hlt'.out; omega)
          go_wp2
          refine wp_region_R (Grew wr) [11] [(0,0), (3,1), (0,5), (3,6), (3,7), (1,2), (3,3), (0,4), (1,8), (1,9), (3,10), (2,11)] (by kernel_rfl) (by kernel_rfl) (fun _ _ _ _ h _ => h) (by first | exact ⟨_, _, ext_drew⟩ | exact ⟨_, _, drew_ext0⟩ | (show Grew _ _; repeat (first | (with_reducible exact Grew.refl _) | (with_reducible assumption) | (with_reducible exact Grew.same_o) | (with_reducible exact Grew.app_o) | (with_reducible refine Grew.ext ?_ _ _) | (with_reducible refine Grew.alloc ?_ _) | ((with_reducible refine Grew.setCell ?_ ?_ _); rotate_left; (focus (dsimp only; first | omega | (simp only [size_ext, World.size_alloc, Array.size_append]; omega)))) | (with_reducible refine Grew.drewN ?_ _) | (with_reducible refine Grew.drew ?_)))) ?_
          go_wp2_with (first | ((with_reducible refine wpR_id ?_); first | (refine wpR_take (v := ?_) rfl rfl ?_ ?_; rotate_left; (focus (rintro w' ⟨o', n', rfl⟩; go_simp; try with_reducible rfl)); simp only [Act.put, List.setIfInBounds_toArray, List.set_cons_zero, List.set_cons_succ]) | (refine wpR_pure (v := ?_) rfl rfl ?_ ?_; rotate_left; (focus (intro w'; go_simp; try with_reducible rfl)); simp only [Act.put, List.setIfInBounds_toArray, List.set_cons_zero, List.set_cons_succ]) | (refine wpR_takeG (v := ?_) rfl rfl rfl rfl rfl ?_ ?_; rotate_left; (focus (rintro w' ⟨o', n', rfl⟩; go_simp; try with_reducible rfl)); simp only [Act.put, List.setIfInBounds_toArray, List.set_cons_zero, List.set_cons_succ]) | (refine wpR_skip rfl rfl rfl rfl rfl rfl ?_; simp only [Act.put, List.setIfInBounds_toArray, List.set_cons_zero, List.set_cons_succ]) | (refine wpR_skipU rfl rfl rfl rfl rfl ?_; simp only [Act.put, List.setIfInBounds_toArray, List.set_cons_zero, List.set_cons_succ]) | (refine wpR_do rfl rfl (fun K hK => ?_)) | (refine wpR_doG rfl rfl rfl rfl rfl (fun K hK => ?_)) | (refine wpR_last rfl rfl (fun K hK => ?_)) | (refine wpR_nil ?_)) | ((with_reducible refine wpR_go ?_ ?_); (focus exact ⟨_, _, rfl⟩)) | ((with_reducible refine upon_id ?_); refine upon_fop rfl (by assumption) (by assumption) ?_; intro rr nn hr) | (go_at_call 156; ((with_reducible refine (hnm _).mono ?_); rintro e w1 ⟨rfl, o1, n1, rfl⟩)) | (go_at_call 155; ((with_reducible refine (hA _ _).mono ?_); rintro e w1 ⟨r, rfl, hr, o2, n2, rfl⟩)))
          go_roundw
          case rel => exact ⟨t + 1, _, by (have := hlt'.out; omega), by go_num, (hB2.setc hL2 (by simp)).grew ⟨_, _, rfl⟩, (hL2.setc (k := x.place t) hr).ext _ _, hS2.div Hx.out hlt'.out⟩
          case measure => (have := hlt'.out; simp [intOf] <;> omega)
    · have e : i = x.n.toNat := by omega
      have hf := (hS.congr (t := solveF m.num x.n.toNat 4 x.num) (fun r hr => by subst e; unfold solveF; rw [if_neg (by decide), if_neg (by decide), if_neg (by decide)])).final Hx.out
      go_wp2
      go_ret
      exact ⟨rfl, bw _ hB, by rw [← hf]; exact hL⟩
end Go.Proofs.Ytcmggfpcbijcjaa
end
section
/-
  Contract: trsv.Solve, of a system that is solved (kind 2).
-/
set_option linter.unusedSimpArgs false
set_option linter.unusedVariables false
open Go Go.RowKit Sedge
namespace Go.Proofs.Ytcmggfpcbijcjaa
set_option maxRecDepth 100000 in
set_option maxHeartbeats 2000000 in
theorem solve_2 (m : MatM) (x : VecM) (a g ca cg : Nat) (w : World) (hD : FS w (.slice (some ⟨a, 0, none⟩) m.ws.length ca) m.ws) (hF : FW w g x.ws) (hPa : Plain w a) (hm : m.good = true) (hx : x.right = true) (hwm : m.wf) (hwx : x.wf)
    (hsq : m.rows = m.cols) (hn : m.rows = x.n) (hr : m.rows ≤ 1000) (hlm : m.ws.length ≤ 1000000) (hlx : x.ws.length ≤ 1000000) (hmeet : meetM (rowM x) m (decide (g = a)) = false) (hz : zeroTo 2 m m.rows.toNat = false)
    (hat : ∀ w' L s, But w [g] w' → FW w' g L → VH x L s → ∀ i j : Nat, (i : Int) < m.rows → (j : Int) < m.rows → Calls Try.prog 155 #[.agg #[.slice (some ⟨a, 0, none⟩) m.ws.length ca, .int .i64 m.off, .int .i64 m.rows, .int .i64 m.cols, .int .i64 m.ld, .slice (some ⟨g, 0, none⟩) x.ws.length cg, .int .i64 x.off, .int .i64 x.n, .int .i64 x.inc], .int .i64 i, .int .i64 j] w'
      (fun e w2 => ∃ r, e = .returned (.float .f64 r) ∧ IsF r (m.num i j) ∧ ∃ o n, w2 = ext w' o n)) :
   Calls Try.prog 79 #[.int .i64 2, .agg #[.slice (some ⟨a, 0, none⟩) m.ws.length ca, .int .i64 m.off, .int .i64 m.rows, .int .i64 m.cols, .int .i64 m.ld], .agg #[.slice (some ⟨g, 0, none⟩) x.ws.length cg, .int .i64 x.off, .int .i64 x.n, .int .i64 x.inc]] w
     (fun e w' => e = .returned (.int .i64 0) ∧ But w [g] w' ∧ FW w' g (VecMwrite x ((List.range x.n.toNat).map (solveF m.num x.n.toNat 2 x.num)))) := by
  have hX := hF.fs (by omega) cg
  have hltg := hF.lt
  have hnn := VecM.right_n hx
  have cR : ∀ w', FS w' (.slice (some ⟨g, 0, none⟩) x.ws.length cg) x.ws → Calls Try.prog 135 #[.agg #[.slice (some ⟨g, 0, none⟩) x.ws.length cg, .int .i64 x.off, .int .i64 x.n, .int .i64 x.inc]] w' (fun e w2 => e = .returned (.bool true) ∧ ∃ o n, w2 = ext w' o n) := fun w' h => by
    have := right_any x _ w' h hwx; rw [hx] at this; exact this
  have cS : ∀ w', FS w' (.slice (some ⟨a, 0, none⟩) m.ws.length ca) m.ws → Calls Try.prog 151 #[.int .i64 2, .agg #[.slice (some ⟨a, 0, none⟩) m.ws.length ca, .int .i64 m.off, .int .i64 m.rows, .int .i64 m.cols, .int .i64 m.ld], .int .i64 x.n] w' (fun e w2 => e = .returned (.int .i64 0) ∧ ∃ o n, w2 = ext w' o n) := fun w' h => by
    have := square_any 2 m _ x.n w' h hwm
    have e : sqE 2 m x.n = 0 := by
      unfold sqE
      rw [if_neg (fun h => h.elim (by omega) (fun h => h.elim (by omega) (fun h => by rw [hm] at h; cases h))), if_pos ⟨hsq, hn⟩]
    rw [e] at this
    exact this
  have cM : ∀ w', FS w' (.slice (some ⟨g, 0, none⟩) x.ws.length cg) x.ws → FS w' (.slice (some ⟨a, 0, none⟩) m.ws.length ca) m.ws → Plain w' g → Plain w' a → Calls Try.prog 136 #[.agg #[.slice (some ⟨g, 0, none⟩) x.ws.length cg, .int .i64 x.off, .int .i64 1, .int .i64 x.n, .int .i64 x.inc], .agg #[.slice (some ⟨a, 0, none⟩) m.ws.length ca, .int .i64 m.off, .int .i64 m.rows, .int .i64 m.cols, .int .i64 m.ld]] w' (fun e w2 => e = .returned (.bool false) ∧ ∃ o n, w2 = ext w' o n) := fun w' h1 h2 p1 p2 => by
    have := meetM_any (rowM x) m g a cg ca w' h1 h2 p1 p2 (rowM_wf hwx) hwm hlx hlm
    rw [hmeet] at this; exact this
  have cZ : ∀ w', FS w' (.slice (some ⟨a, 0, none⟩) m.ws.length ca) m.ws → Calls Try.prog 153 #[.int .i64 2, .agg #[.slice (some ⟨a, 0, none⟩) m.ws.length ca, .int .i64 m.off, .int .i64 m.rows, .int .i64 m.cols, .int .i64 m.ld]] w' (fun e w2 => e = .returned (.bool false) ∧ ∃ o n, w2 = ext w' o n) := fun w' h => by
    have := zero_any 2 m _ w' h hm hwm hsq hr hlm; rw [hz] at this; exact this
  have Hx := hid hx
  have Hn := hid hn
  have HM := hid hsq
  clear hx hn hm hwm hwx hsq hmeet hz
  go_enter Try.func79, Try.ntmps79
  refine seq_stop ?_
  go_wp2
  refine stop_go (fun W hW => ?_)
  have s1 : w.heap.size < W.heap.size := by rw [hW]; simp only [World.size_alloc]; omega
  have b1 : ∀ i, W.cell? ⟨w.heap.size, i, none⟩ = (#[.slice (some ⟨a, 0, none⟩) m.ws.length ca, .int .i64 m.off, .int .i64 m.rows, .int .i64 m.cols, .int .i64 m.ld] : Array Value)[i]? := by intro i; rw [hW]; go_simp
  have s2 : w.heap.size + 1 < W.heap.size := by rw [hW]; simp only [World.size_alloc]; omega
  have b2 : ∀ i, W.cell? ⟨w.heap.size + 1, i, none⟩ = (#[.slice (some ⟨g, 0, none⟩) x.ws.length cg, .int .i64 x.off, .int .i64 x.n, .int .i64 x.inc] : Array Value)[i]? := by intro i; rw [hW]; go_simp
  have g0 : Grew w W := by rw [hW]; exact ((Grew.refl _).alloc _).alloc _
  clear hW
  have hDW := hD.grew g0
  have hXW := hX.grew g0
  go_wp2_with (first | (go_at_call 135; ((with_reducible refine (cR _ ?_).mono ?_); (focus (first | (with_reducible assumption) | (with_reducible refine FS.ext ?_ _ _; with_reducible assumption) | (with_reducible refine IS.ext ?_ _ _; with_reducible assumption) | (refine hDu _ ?_; with_reducible assumption) | (refine hOu _ ?_; with_reducible assumption) | (refine hDa _ ?_; with_reducible assumption) | (refine hDb _ ?_; with_reducible assumption) | (refine hDc _ ?_; with_reducible assumption) | (refine hDd _ ?_; with_reducible assumption) | (refine FW.fs ?_ (by omega) _; with_reducible assumption) | (refine WS.fs ?_; with_reducible assumption) | (refine FW.fs ?_ (by omega) _; assumption) | omega | assumption)); rintro e w1 ⟨rfl, oa, na, rfl⟩)) | (go_at_call 151; ((with_reducible refine (cS _ ?_).mono ?_); (focus (first | (with_reducible assumption) | (with_reducible refine FS.ext ?_ _ _; with_reducible assumption) | (with_reducible refine IS.ext ?_ _ _; with_reducible assumption) | (refine hDu _ ?_; with_reducible assumption) | (refine hOu _ ?_; with_reducible assumption) | (refine hDa _ ?_; with_reducible assumption) | (refine hDb _ ?_; with_reducible assumption) | (refine hDc _ ?_; with_reducible assumption) | (refine hDd _ ?_; with_reducible assumption) | (refine FW.fs ?_ (by omega) _; with_reducible assumption) | (refine WS.fs ?_; with_reducible assumption) | (refine FW.fs ?_ (by omega) _; assumption) | omega | assumption)); rintro e w1 ⟨rfl, ob, nb, rfl⟩)))
  refine wp_region_R (Grew W) [] [(0,0), (0,2), (1,1), (1,3), (0,4)] (by kernel_rfl) (by kernel_rfl) (fun _ _ _ _ h _ => h) (by first | exact ⟨_, _, ext_drew⟩ | exact ⟨_, _, drew_ext0⟩ | (show Grew _ _; repeat (first | (with_reducible exact Grew.refl _) | (with_reducible assumption) | (with_reducible exact Grew.same_o) | (with_reducible exact Grew.app_o) | (with_reducible refine Grew.ext ?_ _ _) | (with_reducible refine Grew.alloc ?_ _) | ((with_reducible refine Grew.setCell ?_ ?_ _); rotate_left; (focus (dsimp only; first | omega | (simp only [size_ext, World.size_alloc, Array.size_append]; omega)))) | (with_reducible refine Grew.drewN ?_ _) | (with_reducible refine Grew.drew ?_)))) ?_
  go_wp2_with (first | ((with_reducible refine wpR_id ?_); first | (refine wpR_take (v := ?_) rfl rfl ?_ ?_; rotate_left; (focus (rintro w' ⟨o', n', rfl⟩; go_simp; try with_reducible rfl)); simp only [Act.put, List.setIfInBounds_toArray, List.set_cons_zero, List.set_cons_succ]) | (refine wpR_pure (v := ?_) rfl rfl ?_ ?_; rotate_left; (focus (intro w'; go_simp; try with_reducible rfl)); simp only [Act.put, List.setIfInBounds_toArray, List.set_cons_zero, List.set_cons_succ]) | (refine wpR_takeG (v := ?_) rfl rfl rfl rfl rfl ?_ ?_; rotate_left; (focus (rintro w' ⟨o', n', rfl⟩; go_simp; try with_reducible rfl)); simp only [Act.put, List.setIfInBounds_toArray, List.set_cons_zero, List.set_cons_succ]) | (refine wpR_skip rfl rfl rfl rfl rfl rfl ?_; simp only [Act.put, List.setIfInBounds_toArray, List.set_cons_zero, List.set_cons_succ]) | (refine wpR_skipU rfl rfl rfl rfl rfl ?_; simp only [Act.put, List.setIfInBounds_toArray, List.set_cons_zero, List.set_cons_succ]) | (refine wpR_do rfl rfl (fun K hK => ?_)) | (refine wpR_doG rfl rfl rfl rfl rfl (fun K hK => ?_)) | (refine wpR_last rfl rfl (fun K hK => ?_)) | (refine wpR_nil ?_)) | ((with_reducible refine wpR_go ?_ ?_); (focus exact ⟨_, _, rfl⟩)) | ((with_reducible refine upon_id ?_); refine upon_fop rfl (by assumption) (by assumption) ?_; intro rr nn hr) | (go_at_call 152; ((with_reducible refine (trow_any x _ _ _ _).mono ?_); rintro e w1 ⟨rfl, oc, nc, rfl⟩)) | (go_at_call 136; ((with_reducible refine (cM _ ?_ ?_ ((FW.plain hF).grew (by (show Grew _ _; repeat (first | (with_reducible exact Grew.refl _) | (with_reducible assumption) | (with_reducible exact Grew.same_o) | (with_reducible exact Grew.app_o) | (with_reducible refine Grew.ext ?_ _ _) | (with_reducible refine Grew.alloc ?_ _) | ((with_reducible refine Grew.setCell ?_ ?_ _); rotate_left; (focus (dsimp only; first | omega | (simp only [size_ext, World.size_alloc, Array.size_append]; omega)))) | (with_reducible refine Grew.drewN ?_ _) | (with_reducible refine Grew.drew ?_))))) (hPa.grew (by (show Grew _ _; repeat (first | (with_reducible exact Grew.refl _) | (with_reducible assumption) | (with_reducible exact Grew.same_o) | (with_reducible exact Grew.app_o) | (with_reducible refine Grew.ext ?_ _ _) | (with_reducible refine Grew.alloc ?_ _) | ((with_reducible refine Grew.setCell ?_ ?_ _); rotate_left; (focus (dsimp only; first | omega | (simp only [size_ext, World.size_alloc, Array.size_append]; omega)))) | (with_reducible refine Grew.drewN ?_ _) | (with_reducible refine Grew.drew ?_)))))).mono ?_); (focus (first | (with_reducible assumption) | (with_reducible refine FS.ext ?_ _ _; with_reducible assumption) | (with_reducible refine IS.ext ?_ _ _; with_reducible assumption) | (refine hDu _ ?_; with_reducible assumption) | (refine hOu _ ?_; with_reducible assumption) | (refine hDa _ ?_; with_reducible assumption) | (refine hDb _ ?_; with_reducible assumption) | (refine hDc _ ?_; with_reducible assumption) | (refine hDd _ ?_; with_reducible assumption) | (refine FW.fs ?_ (by omega) _; with_reducible assumption) | (refine WS.fs ?_; with_reducible assumption) | (refine FW.fs ?_ (by omega) _; assumption) | omega | assumption)); (focus (first | (with_reducible assumption) | (with_reducible refine FS.ext ?_ _ _; with_reducible assumption) | (with_reducible refine IS.ext ?_ _ _; with_reducible assumption) | (refine hDu _ ?_; with_reducible assumption) | (refine hOu _ ?_; with_reducible assumption) | (refine hDa _ ?_; with_reducible assumption) | (refine hDb _ ?_; with_reducible assumption) | (refine hDc _ ?_; with_reducible assumption) | (refine hDd _ ?_; with_reducible assumption) | (refine FW.fs ?_ (by omega) _; with_reducible assumption) | (refine WS.fs ?_; with_reducible assumption) | (refine FW.fs ?_ (by omega) _; assumption) | omega | assumption)); rintro e w1 ⟨rfl, od, nd, rfl⟩)) | (go_at_call 153; ((with_reducible refine (cZ _ ?_).mono ?_); (focus (first | (with_reducible assumption) | (with_reducible refine FS.ext ?_ _ _; with_reducible assumption) | (with_reducible refine IS.ext ?_ _ _; with_reducible assumption) | (refine hDu _ ?_; with_reducible assumption) | (refine hOu _ ?_; with_reducible assumption) | (refine hDa _ ?_; with_reducible assumption) | (refine hDb _ ?_; with_reducible assumption) | (refine hDc _ ?_; with_reducible assumption) | (refine hDd _ ?_; with_reducible assumption) | (refine FW.fs ?_ (by omega) _; with_reducible assumption) | (refine WS.fs ?_; with_reducible assumption) | (refine FW.fs ?_ (by omega) _; assumption) | omega | assumption)); rintro e w1 ⟨rfl, oe, ne, rfl⟩)))
  refine wp_region_R (Grew W) [] [(0,0), (0,1), (0,2), (0,3), (0,4), (1,5), (1,6), (0,7)] (by kernel_rfl) (by kernel_rfl) (fun _ _ _ _ h _ => h) (by first | exact ⟨_, _, ext_drew⟩ | exact ⟨_, _, drew_ext0⟩ | (show Grew _ _; repeat (first | (with_reducible exact Grew.refl _) | (with_reducible assumption) | (with_reducible exact Grew.same_o) | (with_reducible exact Grew.app_o) | (with_reducible refine Grew.ext ?_ _ _) | (with_reducible refine Grew.alloc ?_ _) | ((with_reducible refine Grew.setCell ?_ ?_ _); rotate_left; (focus (dsimp only; first | omega | (simp only [size_ext, World.size_alloc, Array.size_append]; omega)))) | (with_reducible refine Grew.drewN ?_ _) | (with_reducible refine Grew.drew ?_)))) ?_
  go_wp2_with (first | ((with_reducible refine wpR_id ?_); first | (refine wpR_take (v := ?_) rfl rfl ?_ ?_; rotate_left; (focus (rintro w' ⟨o', n', rfl⟩; go_simp; try with_reducible rfl)); simp only [Act.put, List.setIfInBounds_toArray, List.set_cons_zero, List.set_cons_succ]) | (refine wpR_pure (v := ?_) rfl rfl ?_ ?_; rotate_left; (focus (intro w'; go_simp; try with_reducible rfl)); simp only [Act.put, List.setIfInBounds_toArray, List.set_cons_zero, List.set_cons_succ]) | (refine wpR_takeG (v := ?_) rfl rfl rfl rfl rfl ?_ ?_; rotate_left; (focus (rintro w' ⟨o', n', rfl⟩; go_simp; try with_reducible rfl)); simp only [Act.put, List.setIfInBounds_toArray, List.set_cons_zero, List.set_cons_succ]) | (refine wpR_skip rfl rfl rfl rfl rfl rfl ?_; simp only [Act.put, List.setIfInBounds_toArray, List.set_cons_zero, List.set_cons_succ]) | (refine wpR_skipU rfl rfl rfl rfl rfl ?_; simp only [Act.put, List.setIfInBounds_toArray, List.set_cons_zero, List.set_cons_succ]) | (refine wpR_do rfl rfl (fun K hK => ?_)) | (refine wpR_doG rfl rfl rfl rfl rfl (fun K hK => ?_)) | (refine wpR_last rfl rfl (fun K hK => ?_)) | (refine wpR_nil ?_)) | ((with_reducible refine wpR_go ?_ ?_); (focus (show Grew _ _; repeat (first | (with_reducible exact Grew.refl _) | (with_reducible assumption) | (with_reducible exact Grew.same_o) | (with_reducible exact Grew.app_o) | (with_reducible refine Grew.ext ?_ _ _) | (with_reducible refine Grew.alloc ?_ _) | ((with_reducible refine Grew.setCell ?_ ?_ _); rotate_left; (focus (dsimp only; first | omega | (simp only [size_ext, World.size_alloc, Array.size_append]; omega)))) | (with_reducible refine Grew.drewN ?_ _) | (with_reducible refine Grew.drew ?_))))) | ((with_reducible refine upon_id ?_); refine upon_fop rfl (by assumption) (by assumption) ?_; intro rr nn hr))
  refine name_any (fun V hV => ?_)
  have gV : Grew W V := by rw [← hV]; (show Grew _ _; repeat (first | (with_reducible exact Grew.refl _) | (with_reducible assumption) | (with_reducible exact Grew.same_o) | (with_reducible exact Grew.app_o) | (with_reducible refine Grew.ext ?_ _ _) | (with_reducible refine Grew.alloc ?_ _) | ((with_reducible refine Grew.setCell ?_ ?_ _); rotate_left; (focus (dsimp only; first | omega | (simp only [size_ext, World.size_alloc, Array.size_append]; omega)))) | (with_reducible refine Grew.drewN ?_ _) | (with_reducible refine Grew.drew ?_)))
  have gw : Grew w V := g0.trans gV
  have zW := g0.below.size
  have cT : ∀ i, V.cell? ⟨W.heap.size + (oa.size + (ob.size + (oc.size + (od.size + oe.size)))), i, none⟩ = (#[.slice (some ⟨a, 0, none⟩) m.ws.length ca, .int .i64 m.off, .int .i64 m.rows, .int .i64 m.cols, .int .i64 m.ld, .slice (some ⟨g, 0, none⟩) x.ws.length cg, .int .i64 x.off, .int .i64 x.n, .int .i64 x.inc] : Array Value)[i]? := by subst hV; intro i; go_simp
  have kT : W.heap.size + (oa.size + (ob.size + (oc.size + (od.size + oe.size)))) < V.heap.size := by rw [← hV]; simp only [World.size_alloc, size_ext, Array.size_append]; omega
  obtain ⟨T, hT⟩ : ∃ T, W.heap.size + (oa.size + (ob.size + (oc.size + (od.size + oe.size)))) = T := ⟨_, rfl⟩
  have zT : W.heap.size ≤ T := by omega
  rw [hT] at cT kT
  simp only [hT]
  have hFV : FW V g x.ws := hF.grew gw
  have cU : ∀ w', But V [g] w' → ∀ i, w'.cell? ⟨T, i, none⟩ = (#[.slice (some ⟨a, 0, none⟩) m.ws.length ca, .int .i64 m.off, .int .i64 m.rows, .int .i64 m.cols, .int .i64 m.ld, .slice (some ⟨g, 0, none⟩) x.ws.length cg, .int .i64 x.off, .int .i64 x.n, .int .i64 x.inc] : Array Value)[i]? := fun w' h i => (h.cell kT (by simp; omega)).trans (cT i)
  have bw : ∀ w', But V [g] w' → But w [g] w' := fun w' h => ((But.refl w [g]).grew gw).trans h (fun _ hb => .inl hb)
  have hnl := VecM.right_nle Hx.out hlx
  clear hV hT cT cR cS cM cZ b1 b2
  have r0 : IntKind.i64.wrap (x.n - 1) = x.n - 1 := IntWalk.i64_in _ (by omega)
  go_loopw [12] (fun c wr => ∃ (p : Nat) (L : List Nat), (p : Int) ≤ x.n ∧ c = .int .i64 (x.n - 1 - p) ∧ But V [g] wr ∧ FW wr g L ∧ VH x L (colAll2 m.num x.n.toNat x.num p)) (fun c _ => (intOf c + 1).toNat)
  case atStart => exact ⟨0, x.ws, hnn.1, by (simp; first | exact r0 | simpa using r0 | (unfold wrap64; omega)), But.refl _ _, hFV, VH.start x⟩
  case round =>
    obtain ⟨p, L2, hj, rfl, hB2, hL2, hS2⟩ := hrel
    by_cases hlt : 0 ≤ x.n - 1 - p
    · obtain ⟨t, hi⟩ : ∃ i : Nat, x.n - 1 - p = i := ⟨(x.n - 1 - p).toNat, by omega⟩
      have hi' := hid hi
      rw [hi] at hlt
      simp only [hi]
      have hix : (t : Int) < x.n := by omega
      have hlt' := hid hix
      clear hi
      have tT2 := cU _ hB2
      have hpi := VecM.right_place Hx.out hlt'.out
      obtain ⟨r0', hr0, hf0⟩ := hL2.get (i := x.place t) (by rw [hS2.len]; unfold VecM.place; omega)
      have hr1 := hr0
      unfold VecM.place at hr1
      have gl := hL2.lt
      have zB := hB2.size
      have kT2 : T < wr.heap.size := by omega
      have fz : ∀ i, wr.frozen? ⟨g, i, none⟩ = false := hL2.notFrozen
      have hnm : ∀ w', Calls Try.prog 156 #[.agg #[.slice (some ⟨a, 0, none⟩) m.ws.length ca, .int .i64 m.off, .int .i64 m.rows, .int .i64 m.cols, .int .i64 m.ld, .slice (some ⟨g, 0, none⟩) x.ws.length cg, .int .i64 x.off, .int .i64 x.n, .int .i64 x.inc], .int .i64 t] w' (fun e w2 => e = .returned (.pointer (some ⟨g, (x.off + t * x.inc).toNat, none⟩)) ∧ ∃ o n, w2 = ext w' o n) := fun w' => num_any m x (.slice (some ⟨a, 0, none⟩) m.ws.length ca) g cg t w' Hx.out hlt'.out hlx
      have hA : ∀ o n, Calls Try.prog 155 #[.agg #[.slice (some ⟨a, 0, none⟩) m.ws.length ca, .int .i64 m.off, .int .i64 m.rows, .int .i64 m.cols, .int .i64 m.ld, .slice (some ⟨g, 0, none⟩) x.ws.length cg, .int .i64 x.off, .int .i64 x.n, .int .i64 x.inc], .int .i64 t, .int .i64 t] (ext wr o n) (fun e w2 => ∃ r, e = .returned (.float .f64 r) ∧ IsF r (m.num t t) ∧ ∃ o' n', w2 = ext (ext wr o n) o' n') := fun o n => hat _ L2 _ (bw _ (hB2.grew ⟨_, _, rfl⟩)) (hL2.ext o n) hS2 t t (by have := Hn.out; have := hlt'.out; omega) (by have := Hn.out; have := hlt'.out; omega)
      go_wp2
      refine wp_region_R (Grew wr) [11] [(0,0), (3,1), (0,5), (3,6), (3,7), (1,2), (3,3), (0,4), (1,8), (1,9), (3,10), (2,11)] (by kernel_rfl) (by kernel_rfl) (fun _ _ _ _ h _ => h) (by first | exact ⟨_, _, ext_drew⟩ | exact ⟨_, _, drew_ext0⟩ | (show Grew _ _; repeat (first | (with_reducible exact Grew.refl _) | (with_reducible assumption) | (with_reducible exact Grew.same_o) | (with_reducible exact Grew.app_o) | (with_reducible refine Grew.ext ?_ _ _) | (with_reducible refine Grew.alloc ?_ _) | ((with_reducible refine Grew.setCell ?_ ?_ _); rotate_left; (focus (dsimp only; first | omega | (simp only [size_ext, World.size_alloc, Array.size_append]; omega)))) | (with_reducible refine Grew.drewN ?_ _) | (with_reducible refine Grew.drew ?_)))) ?_
      go_wp2_with (first | ((with_reducible refine wpR_id ?_); first | (refine wpR_take (v := ?_) rfl rfl ?_ ?_; rotate_left; (focus (rintro w' ⟨o', n', rfl⟩; go_simp; try with_reducible rfl)); simp only [Act.put, List.setIfInBounds_toArray, List.set_cons_zero, List.set_cons_succ]) | (refine wpR_pure (v := ?_) rfl rfl ?_ ?_; rotate_left; (focus (intro w'; go_simp; try with_reducible rfl)); simp only [Act.put, List.setIfInBounds_toArray, List.set_cons_zero, List.set_cons_succ]) | (refine wpR_takeG (v := ?_) rfl rfl rfl rfl rfl ?_ ?_; rotate_left; (focus (rintro w' ⟨o', n', rfl⟩; go_simp; try with_reducible rfl)); simp only [Act.put, List.setIfInBounds_toArray, List.set_cons_zero, List.set_cons_succ]) | (refine wpR_skip rfl rfl rfl rfl rfl rfl ?_; simp only [Act.put, List.setIfInBounds_toArray, List.set_cons_zero, List.set_cons_succ]) | (refine wpR_skipU rfl rfl rfl rfl rfl ?_; simp only [Act.put, List.setIfInBounds_toArray, List.set_cons_zero, List.set_cons_succ]) | (refine wpR_do rfl rfl (fun K hK => ?_)) | (refine wpR_doG rfl rfl rfl rfl rfl (fun K hK => ?_)) | (refine wpR_last rfl rfl (fun K hK => ?_)) | (refine wpR_nil ?_)) | ((with_reducible refine wpR_go ?_ ?_); (focus exact ⟨_, _, rfl⟩)) | ((with_reducible refine upon_id ?_); refine upon_fop rfl (by assumption) (by assumption) ?_; intro rr nn hr) | (go_at_call 156; ((with_reducible refine (hnm _).mono ?_); rintro e w1 ⟨rfl, o1, n1, rfl⟩)) | (go_at_call 155; ((with_reducible refine (hA _ _).mono ?_); rintro e w1 ⟨r, rfl, hr, o2, n2, rfl⟩)))
      refine name_any (fun V5 hV5 => ?_)
      have B5 : But V [g] V5 := by rw [← hV5]; exact (hB2.setc hL2 (by simp)).grew ⟨_, _, rfl⟩
      have F5 : FW V5 g (L2.set (x.place t) (fdiv (L2.getD (x.place t) 0) (m.num t t))) := by rw [← hV5]; exact (hL2.setc (k := x.place t) hr).ext _ _
      have S5 := hS2.div (a := m.num t t) Hx.out hlt'.out
      clear hV5
      go_loopw [86] (fun c wr => ∃ (q : Nat) (L : List Nat), (q : Int) ≤ t ∧ c = .int .i64 q ∧ But V [g] wr ∧ FW wr g L ∧ VH x L (colIn2 m.num (divF (colAll2 m.num x.n.toNat x.num p) t (m.num t t)) t q)) (fun c _ => ((t : Int) - intOf c).toNat)
      case atStart => exact ⟨0, _, by omega, rfl, B5, F5, S5⟩
      case round =>
        obtain ⟨q, L3, ht, rfl, hB3, hL3, hS3⟩ := hrel
        by_cases hl2 : (q : Int) < t
        · have hB4 : ∀ w' r, FW w' g L3 → IsF r (m.num q t) → Calls Try.prog 154 #[.agg #[.slice (some ⟨a, 0, none⟩) m.ws.length ca, .int .i64 m.off, .int .i64 m.rows, .int .i64 m.cols, .int .i64 m.ld, .slice (some ⟨g, 0, none⟩) x.ws.length cg, .int .i64 x.off, .int .i64 x.n, .int .i64 x.inc], .int .i64 q, .int .i64 t, .float .f64 r] w' (fun e w2 => e = .returned (.tuple #[]) ∧ Wrote w' w2 g (L3.set (x.place q) (fsub (L3.getD (x.place q) 0) (fmul (m.num q t) (L3.getD (x.place t) 0))))) := fun w' r h1 h2 =>
            sless_any m x (.slice (some ⟨a, 0, none⟩) m.ws.length ca) g cg q t r _ L3 w' h1 hS3.len Hx.out (by have := hlt'.out; omega) hlt'.out hlx h2
          have tT3 := cU _ hB3
          go_wp2
          refine wp_region_R (But V [g]) [] [(0,0), (0,1), (0,2), (0,3), (0,4), (0,5), (1,6), (1,7)] (by kernel_rfl) (by kernel_rfl) (fun _ _ _ _ h _ => h) (hB3.grew ((Grew.refl _).drew)) ?_
          refine name_any (fun V6 hV6 => ?_)
          have B6 : But V [g] V6 := by rw [← hV6]; exact hB3.grew ((Grew.refl _).drew)
          have F6 : FW V6 g L3 := by rw [← hV6]; exact hL3.grew ((Grew.refl _).drew)
          clear hV6
          go_wp2_with (first | ((with_reducible refine wpR_id ?_); first | (refine wpR_take (v := ?_) rfl rfl ?_ ?_; rotate_left; (focus (intro w' hw'; go_simp; try with_reducible rfl)); simp only [Act.put, List.setIfInBounds_toArray, List.set_cons_zero, List.set_cons_succ]) | (refine wpR_pure (v := ?_) rfl rfl ?_ ?_; rotate_left; (focus (intro w'; go_simp; try with_reducible rfl)); simp only [Act.put, List.setIfInBounds_toArray, List.set_cons_zero, List.set_cons_succ]) | (refine wpR_takeG (v := ?_) rfl rfl rfl rfl rfl ?_ ?_; rotate_left; (focus (intro w' hw'; go_simp; try with_reducible rfl)); simp only [Act.put, List.setIfInBounds_toArray, List.set_cons_zero, List.set_cons_succ]) | (refine wpR_skip rfl rfl rfl rfl rfl rfl ?_; simp only [Act.put, List.setIfInBounds_toArray, List.set_cons_zero, List.set_cons_succ]) | (refine wpR_skipU rfl rfl rfl rfl rfl ?_; simp only [Act.put, List.setIfInBounds_toArray, List.set_cons_zero, List.set_cons_succ]) | (refine wpR_do rfl rfl (fun K hK => ?_)) | (refine wpR_doG rfl rfl rfl rfl rfl (fun K hK => ?_)) | (refine wpR_last rfl rfl (fun K hK => ?_)) | (refine wpR_nil ?_)) | ((with_reducible refine wpR_go ?_ ?_); (focus (with_reducible assumption))) | ((with_reducible refine upon_id ?_); refine upon_fop rfl (by assumption) (by assumption) ?_; intro rr nn hr) | (go_at_call 155; ((with_reducible refine (hat _ L3 _ (bw _ B6) F6 hS3 q t (by have := Hn.out; have := hlt'.out; omega) (by have := Hn.out; have := hlt'.out; omega)).mono ?_); rintro e w1 ⟨r2, rfl, hr2, hw1⟩; (have B7 := B6.grew hw1; have F7 := F6.grew hw1))) | (go_at_call 154; ((with_reducible refine (hB4 _ _ F7 hr2).mono ?_); rintro e w1 ⟨rfl, hw2⟩; (have B8 := B7.wrote hw2 (.inl (by simp)); have F8 := hw2.fw F7))))
          go_roundw
          case rel => exact ⟨q + 1, _, by omega, by go_num, B8, F8, hS3.less Hx.out (by have := hlt'.out; omega) hlt'.out⟩
          case measure => simp [intOf]; omega
        · have e : q = t := by omega
          go_wp2
          go_roundw
          case rel => exact ⟨p + 1, L3, by have := hi'.out; omega, by (have := hi'.out; go_num), hB3, hL3, by subst e; unfold colAll2; rw [show x.n.toNat - 1 - p = q by have := hi'.out; omega]; exact hS3⟩
          case measure => (have := hi'.out; simp [intOf] <;> omega)
    · have e : p = x.n.toNat := by omega
      have hf := (hS2.congr (t := solveF m.num x.n.toNat 2 x.num) (fun r hr => by subst e; unfold solveF; rw [if_neg (by decide), if_pos rfl]; exact col_row2 (by omega))).final Hx.out
      go_wp2
      go_ret
      exact ⟨rfl, bw _ hB2, by rw [← hf]; exact hL2⟩
end Go.Proofs.Ytcmggfpcbijcjaa
end
section
/-
  Places clear of each other; blocks of numbers written out; small facts for the laws.
-/
set_option linter.unusedSimpArgs false
set_option linter.unusedVariables false
open Go Go.RowKit Sedge
namespace Go.Proofs.Ytcmggfpcbijcjaa
theorem meet_no {x : VecM} {m : MatM} (hx : x.right = true) (hm : m.good = true) (h : meetM (rowM x) m true = false) {r i j : Nat} (hr : (r : Int) < x.n) (hi : (i : Int) < m.rows) (hj : (j : Int) < m.cols) : x.place r ≠ m.place i j := by
  intro e
  have f1 : MatM.full (rowM x) = true := by unfold MatM.full; rw [rowM_good hx]; simp [rowM]; omega
  have f2 : MatM.full m = true := by unfold MatM.full; rw [hm]; simp; omega
  have px := VecM.right_place hx hr
  have pm := MatM.good_place hm hi hj
  have hn := VecM.right_n hx
  have hmn := m.good_n hm
  unfold VecM.place MatM.place at e
  have e' : x.off + r * x.inc = m.off + i + j * m.ld := by omega
  have k1 : (r : Int) * x.inc ≤ (x.n - 1) * x.inc := Int.mul_le_mul_of_nonneg_right (by omega) (by omega)
  have k2 : (j : Int) * m.ld ≤ (m.cols - 1) * m.ld := Int.mul_le_mul_of_nonneg_right (by omega) (by omega)
  unfold meetM spanLo spanHi at h
  rw [f1, f2] at h
  simp [rowM] at h
  omega
theorem _root_.Sedge.But.fs_ne {w w' : World} {a g c n : Nat} {ws : List Nat} (hb : But w [g] w') (h : FS w (.slice (some ⟨a, 0, none⟩) n c) ws) (hne : a ≠ g) : FS w' (.slice (some ⟨a, 0, none⟩) n c) ws := by
  obtain ⟨hl, a', cap, hv, h0, hc⟩ := h
  refine ⟨hl, a', cap, hv, h0, fun i hi => ?_⟩
  obtain ⟨blk, o, b, he, h1, h2⟩ := hc i hi
  refine ⟨blk, o, b, he, ?_, h2⟩
  have e : blk = a := by
    have e2 := hv
    simp only [Value.slice.injEq] at e2
    rw [he] at e2
    have e3 := e2.1
    simp only [Option.some.injEq, Addr.mk.injEq] at e3
    exact e3.1.symm
  rw [hb.cell (World.block_lt_of_cell? w _ h1) (by rw [e]; simpa using hne)]; exact h1
theorem meetM_false (x y : MatM) : meetM x y false = false := by unfold meetM; simp
theorem frozen_of_block' {w : World} {p i : Nat} {cs : Array Value} {e : TypeId} (h : w.heap[p]? = some (.cells cs e (0, 0))) : w.frozen? ⟨p, i, none⟩ = false := by
  unfold World.frozen?; simp [h]
theorem great_no {m : MatM} (h : MatM.great m = false) : m.ws.length ≤ 1000 ∧ m.rows ≤ 20 ∧ m.cols ≤ 20 := by simp [MatM.great] at h; omega
theorem long_no' {a : VecM} (h : VecM.long a = false) : a.ws.length ≤ 1000 ∧ a.n ≤ 60 := by simp [VecM.long] at h; omega
theorem FW.lit {w : World} {t : TypeId} (l : List Nat) (h : ∀ x ∈ l, IsF x x) : FW (w.alloc (.cells (l.map (Value.float .f64)).toArray t)) w.heap.size l := by
  refine ⟨(l.map (Value.float .f64)).toArray, t, by show (w.heap.push _)[w.heap.size]? = _; simp, by simp, fun i hi => ⟨l.getD i 0, ?_, ?_⟩⟩
  · simp [List.getD_eq_getElem?_getD, hi]
  · rw [List.getD_eq_getElem?_getD, List.getElem?_eq_getElem hi]
    exact h _ (List.getElem_mem hi)
theorem FW.lit' {w : World} {t : TypeId} (l : List Nat) (h : ∀ x ∈ l, IsF x x) (n : Nat) (hn : n = w.heap.size) : FW (w.alloc (.cells (l.map (Value.float .f64)).toArray t)) n l := by subst hn; exact FW.lit l h
end Go.Proofs.Ytcmggfpcbijcjaa
end
