/-
  Contracts: trsv.zero; the system's num, at, less.
-/
import Derived.Test.YtcmggfpcbijcjaaTrsv1
import Derived.Test.YtcmggfpcbijcjaaSums
set_option linter.unusedSimpArgs false
set_option linter.unusedVariables false
open Go Go.RowKit Sedge
namespace Go.Proofs.Ytcmggfpcbijcjaa
def feq0 (x : Nat) : Bool := D64.order x 0 == some .eq
def zeroTo (k : Int) (x : MatM) (n : Nat) : Bool := (decide (k = 2) || decide (k = 4)) && (List.range n).any fun i => feq0 (x.num i i)
theorem zeroTo_succ (k : Int) (x : MatM) (n : Nat) : zeroTo k x (n + 1) = (zeroTo k x n || ((decide (k = 2) || decide (k = 4)) && feq0 (x.num n n))) := by
  unfold zeroTo; rw [List.range_succ, List.any_append]
  cases (decide (k = 2) || decide (k = 4)) <;> simp
theorem zeroTo_mono {k : Int} {x : MatM} {m n : Nat} (h : zeroTo k x m = true) (hmn : m ≤ n) : zeroTo k x n = true := by
  unfold zeroTo at *
  simp only [Bool.and_eq_true, List.any_eq_true, List.mem_range] at *
  obtain ⟨h1, t, h2, h3⟩ := h
  exact ⟨h1, t, by omega, h3⟩
set_option maxRecDepth 100000 in
set_option maxHeartbeats 1000000 in
/-- trsv.zero. -/
theorem zero_any (k : Int) (x : MatM) (D : Value) (w : World) (hD : FS w D x.ws) (hx : x.good = true) (hwf : x.wf) (hsq : x.rows = x.cols) (hr : x.rows ≤ 1000) (hl : x.ws.length ≤ 1000000) :
   Calls Try.prog 153 #[.int .i64 k, .agg #[D, .int .i64 x.off, .int .i64 x.rows, .int .i64 x.cols, .int .i64 x.ld]] w (fun e w' => e = .returned (.bool (zeroTo k x x.rows.toNat)) ∧ ∃ o n, w' = ext w o n) := by
  have hn := x.good_n hx
  have Hsq := hid hsq
  have hat : ∀ i : Nat, (i : Int) < x.rows → ∀ w', FS w' D x.ws → Calls Try.prog 186 #[.agg #[D, .int .i64 x.off, .int .i64 x.rows, .int .i64 x.cols, .int .i64 x.ld], .int .i64 i, .int .i64 i] w' (fun e w2 => ∃ b, e = .returned (.float .f64 b) ∧ IsF b (x.num i i) ∧ ∃ o n, w2 = ext w' o n) := fun i hi w' h => vat_any x D i i w' h hx hwf hi (by have := Hsq.out; omega) hl
  clear hx hwf hsq
  by_cases hk : k = 2 ∨ k = 4
  · have hkk : (decide (k = 2) || decide (k = 4)) = true := by simpa using hk
    have Hk := hid hkk
    go_enter Try.func153, Try.ntmps153
    refine seq_stop ?_
    go_wp2
    refine stop_go (fun W hW => ?_)
    have s1 : w.heap.size < W.heap.size := by rw [hW]; simp only [World.size_alloc]; omega
    have b1 : ∀ i, W.cell? ⟨w.heap.size, i, none⟩ = (#[D, .int .i64 x.off, .int .i64 x.rows, .int .i64 x.cols, .int .i64 x.ld] : Array Value)[i]? := by intro i; rw [hW]; go_simp
    have g0 : Grew w W := by rw [hW]; exact (Grew.refl _).alloc _
    clear hW
    have hDW := hD.grew g0
    go_wp2
    go_loopw [8] (fun c wr => ∃ (i : Nat) (o : Array Obj) (n : Nat), (i : Int) ≤ x.rows ∧ c = .int .i64 i ∧ wr = ext W o n ∧ zeroTo k x i = false) (fun c _ => x.rows.toNat - (intOf c).toNat)
    case atStart => exact ⟨0, #[], _, hn.1, rfl, ext_zero.symm, by simp [zeroTo]⟩
    case round =>
      obtain ⟨i, o2, n2, hi, rfl, hwr, hz⟩ := hrel
      subst hwr
      have Hz := hid hz
      clear hz
      by_cases hlt : (i : Int) < x.rows
      · have hS := hid (zeroTo_succ k x i)
        have hlt' := hid hlt
        have hati := hat i hlt
        clear hat
        cases hz : feq0 (x.num i i)
        · have h1 : zeroTo k x (i + 1) = false := by rw [hS.out, Hz.out, hz]; simp
          have H1 := hid h1
          clear h1
          rcases hk with hk2 | hk4
          · have d1 : (k == 2) = true := by simpa using hk2
            clear hk2 hkk
            go_wp2_with (first | (go_at_call 186; ((with_reducible refine (hati _ ?_).mono ?_); (focus (first | assumption | (refine FS.ext ?_ _ _; assumption) | (refine IS.ext ?_ _ _; assumption) | (refine hDu _ ?_; assumption) | (refine hOu _ ?_; assumption) | (refine FW.fs ?_ (by omega) _; assumption) | (refine WS.fs ?_; assumption) | omega)); rintro e w1 ⟨b, rfl, hf, o3, n3, rfl⟩; (have hz' : (FloatKind.f64.format.order b 0 == some Ordering.eq) = false := by rw [← hz]; unfold feq0; rw [← hf.order isF_zero]; rfl))))
            go_roundw
            case rel => exact ⟨i + 1, _, _, by have := hlt'.out; omega, by go_num, rfl, H1.out⟩
            case measure => (have := hlt'.out; simp [intOf]; omega)
          · have d1 : (k == 2) = false := by rw [beq_eq_false_iff_ne]; omega
            have d2 : (k == 4) = true := by simpa using hk4
            clear hk4 hkk
            go_wp2_with (first | (go_at_call 186; ((with_reducible refine (hati _ ?_).mono ?_); (focus (first | assumption | (refine FS.ext ?_ _ _; assumption) | (refine IS.ext ?_ _ _; assumption) | (refine hDu _ ?_; assumption) | (refine hOu _ ?_; assumption) | (refine FW.fs ?_ (by omega) _; assumption) | (refine WS.fs ?_; assumption) | omega)); rintro e w1 ⟨b, rfl, hf, o3, n3, rfl⟩; (have hz' : (FloatKind.f64.format.order b 0 == some Ordering.eq) = false := by rw [← hz]; unfold feq0; rw [← hf.order isF_zero]; rfl))))
            go_roundw
            case rel => exact ⟨i + 1, _, _, by have := hlt'.out; omega, by go_num, rfl, H1.out⟩
            case measure => (have := hlt'.out; simp [intOf]; omega)
        · have h1 : zeroTo k x (i + 1) = true := by rw [hS.out, Hk.out, hz]; simp
          have q := hid (zeroTo_mono h1 (show i + 1 ≤ x.rows.toNat by omega))
          clear h1
          rcases hk with hk2 | hk4
          · have d1 : (k == 2) = true := by simpa using hk2
            clear hk2 hkk
            go_wp2_with (first | (go_at_call 186; ((with_reducible refine (hati _ ?_).mono ?_); (focus (first | assumption | (refine FS.ext ?_ _ _; assumption) | (refine IS.ext ?_ _ _; assumption) | (refine hDu _ ?_; assumption) | (refine hOu _ ?_; assumption) | (refine FW.fs ?_ (by omega) _; assumption) | (refine WS.fs ?_; assumption) | omega)); rintro e w1 ⟨b, rfl, hf, o3, n3, rfl⟩; (have hz' : (FloatKind.f64.format.order b 0 == some Ordering.eq) = true := by rw [← hz]; unfold feq0; rw [← hf.order isF_zero]; rfl))))
            go_ret
            exact ⟨ret_bool q.out.symm, by (show Grew _ _; repeat (first | (with_reducible exact Grew.refl _) | (with_reducible assumption) | (with_reducible refine Grew.ext ?_ _ _) | (with_reducible refine Grew.alloc ?_ _) | ((with_reducible refine Grew.setCell ?_ ?_ _); rotate_left; (focus (dsimp only; first | omega | (simp only [size_ext, World.size_alloc, Array.size_append]; omega)))) | (with_reducible refine Grew.drewN ?_ _) | (with_reducible refine Grew.drew ?_)))⟩
          · have d1 : (k == 2) = false := by rw [beq_eq_false_iff_ne]; omega
            have d2 : (k == 4) = true := by simpa using hk4
            clear hk4 hkk
            go_wp2_with (first | (go_at_call 186; ((with_reducible refine (hati _ ?_).mono ?_); (focus (first | assumption | (refine FS.ext ?_ _ _; assumption) | (refine IS.ext ?_ _ _; assumption) | (refine hDu _ ?_; assumption) | (refine hOu _ ?_; assumption) | (refine FW.fs ?_ (by omega) _; assumption) | (refine WS.fs ?_; assumption) | omega)); rintro e w1 ⟨b, rfl, hf, o3, n3, rfl⟩; (have hz' : (FloatKind.f64.format.order b 0 == some Ordering.eq) = true := by rw [← hz]; unfold feq0; rw [← hf.order isF_zero]; rfl))))
            go_ret
            exact ⟨ret_bool q.out.symm, by (show Grew _ _; repeat (first | (with_reducible exact Grew.refl _) | (with_reducible assumption) | (with_reducible refine Grew.ext ?_ _ _) | (with_reducible refine Grew.alloc ?_ _) | ((with_reducible refine Grew.setCell ?_ ?_ _); rotate_left; (focus (dsimp only; first | omega | (simp only [size_ext, World.size_alloc, Array.size_append]; omega)))) | (with_reducible refine Grew.drewN ?_ _) | (with_reducible refine Grew.drew ?_)))⟩
      · have q := hid (show zeroTo k x x.rows.toNat = false by rw [show x.rows.toNat = i by omega]; exact Hz.out)
        clear hk hkk
        go_wp2
        go_ret
        exact ⟨ret_bool q.out.symm, by (show Grew _ _; repeat (first | (with_reducible exact Grew.refl _) | (with_reducible assumption) | (with_reducible refine Grew.ext ?_ _ _) | (with_reducible refine Grew.alloc ?_ _) | ((with_reducible refine Grew.setCell ?_ ?_ _); rotate_left; (focus (dsimp only; first | omega | (simp only [size_ext, World.size_alloc, Array.size_append]; omega)))) | (with_reducible refine Grew.drewN ?_ _) | (with_reducible refine Grew.drew ?_)))⟩
  · have q := hid (show zeroTo k x x.rows.toNat = false by unfold zeroTo; rw [show (decide (k = 2) || decide (k = 4)) = false by simpa using hk]; rfl)
    have d1 : (k == 2) = false := by rw [beq_eq_false_iff_ne]; omega
    have d2 : (k == 4) = false := by rw [beq_eq_false_iff_ne]; omega
    clear hk hat
    go_enter Try.func153, Try.ntmps153
    refine seq_stop ?_
    go_wp2
    refine stop_go (fun W hW => ?_)
    have s1 : w.heap.size < W.heap.size := by rw [hW]; simp only [World.size_alloc]; omega
    have b1 : ∀ i, W.cell? ⟨w.heap.size, i, none⟩ = (#[D, .int .i64 x.off, .int .i64 x.rows, .int .i64 x.cols, .int .i64 x.ld] : Array Value)[i]? := by intro i; rw [hW]; go_simp
    have g0 : Grew w W := by rw [hW]; exact (Grew.refl _).alloc _
    clear hW
    go_wp2
    go_loopw [8] (fun c wr => ∃ (i : Nat) (o : Array Obj) (n : Nat), (i : Int) ≤ x.rows ∧ c = .int .i64 i ∧ wr = ext W o n) (fun c _ => x.rows.toNat - (intOf c).toNat)
    case atStart => exact ⟨0, #[], _, hn.1, rfl, ext_zero.symm⟩
    case round =>
      obtain ⟨i, o2, n2, hi, rfl, hwr⟩ := hrel
      subst hwr
      by_cases hlt : (i : Int) < x.rows
      · go_wp2
        go_roundw
        case rel => exact ⟨i + 1, _, _, by omega, by go_num, rfl⟩
        case measure => simp [intOf]; omega
      · go_wp2
        go_ret
        exact ⟨ret_bool q.out.symm, by (show Grew _ _; repeat (first | (with_reducible exact Grew.refl _) | (with_reducible assumption) | (with_reducible refine Grew.ext ?_ _ _) | (with_reducible refine Grew.alloc ?_ _) | ((with_reducible refine Grew.setCell ?_ ?_ _); rotate_left; (focus (dsimp only; first | omega | (simp only [size_ext, World.size_alloc, Array.size_append]; omega)))) | (with_reducible refine Grew.drewN ?_ _) | (with_reducible refine Grew.drew ?_)))⟩
end Go.Proofs.Ytcmggfpcbijcjaa
