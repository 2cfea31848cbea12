/-
  Texts laid one behind the other (a claim has at most 60 files): LawSums, Berr1, Bnd2, Ger3, Berr2, BackP, Backw, FinL, Dense, Aw22, Clear.
-/
import Derived.Test.YtcmggfpcbijcjaaQResidBackward1
import Derived.Test.YtcmggfpcbijcjaaQResidBackward2
import Derived.Test.YtcmggfpcbijcjaaQResidBackward3
import Derived.Test.YtcmggfpcbijcjaaQResidBackward4
import Derived.Test.YtcmggfpcbijcjaaQResidBackward5
import Derived.Test.YtcmggfpcbijcjaaQResidBackward6
import Derived.Test.YtcmggfpcbijcjaaQResidBackward7
import Derived.Test.YtcmggfpcbijcjaaQResidBackward8
import Derived.Test.YtcmggfpcbijcjaaQResidBackward9
section
/-
  The law SumsLists: its example, its walk.
-/
set_option linter.unusedSimpArgs false
set_option linter.unusedVariables false
open Go Go.RowKit Sedge
namespace Go.Proofs.Ytcmggfpcbijcjaa
def L123 : List Nat := [4607182418800017408, 4611686018427387904, 4613937818241073152]
def L456 : List Nat := [4616189618054758400, 4617315517961601024, 4618441417868443648]
theorem wf_small (ws : List Nat) (off n inc : Int) (h1 : I64 off) (h2 : I64 n) (h3 : I64 inc) : VecM.wf ⟨ws, off, n, inc⟩ := ⟨h1, h2, h3⟩
theorem i64_small {x : Int} (h : -1000000 ≤ x ∧ x ≤ 1000000) : I64 x := by unfold I64; omega
theorem most_ex (D : Value) (w : World) (hD : FS w D L123) :
    Calls Try.prog 127 #[.agg #[D, .int .i64 0, .int .i64 3, .int .i64 1]] w (fun e w' => e = .returned (.tuple #[.int .i64 2, .int .i64 0]) ∧ ∃ o n, w' = ext w o n) := by
  have h := most_ok ⟨L123, 0, 3, 1⟩ D w hD (wf_small _ _ _ _ (i64_small (by decide)) (i64_small (by decide)) (i64_small (by decide))) (by decide +kernel)
  have e : mostTo ⟨L123, 0, 3, 1⟩ (Int.toNat 3) = 2 := by decide +kernel
  simp only [e] at h
  exact h
theorem dot_ex (D E : Value) (w : World) (hD : FS w D L123) (hE : FS w E L456) :
    Calls Try.prog 128 #[.agg #[D, .int .i64 0, .int .i64 3, .int .i64 1], .agg #[E, .int .i64 0, .int .i64 3, .int .i64 1]] w
      (fun e w' => ∃ b, e = .returned (.tuple #[.float .f64 b, .int .i64 0]) ∧ IsF b 4629700416936869888 ∧ ∃ o n, w' = ext w o n) := by
  have hw : ∀ ws, VecM.wf ⟨ws, 0, 3, 1⟩ := fun ws => wf_small _ _ _ _ (i64_small (by decide)) (i64_small (by decide)) (i64_small (by decide))
  have h := dot_ok ⟨L123, 0, 3, 1⟩ ⟨L456, 0, 3, 1⟩ D E w hD hE (hw _) (hw _) (by decide +kernel) (by decide +kernel) rfl
  have e : dotTo ⟨L123, 0, 3, 1⟩ ⟨L456, 0, 3, 1⟩ (Int.toNat 3) = 4629700416936869888 := by decide +kernel
  simp only [e] at h
  exact h
theorem eq_fact {r s X Y : Nat} (hr : IsF r X) (hs : IsF s Y) : (FloatKind.f64.format.order r s == some .eq) = feq X Y := by
  unfold feq; rw [← hr.order hs]; rfl
theorem eq_is {r s X Y : Nat} (hr : IsF r X) (hs : IsF s Y) {v : Bool} (h : feq X Y = v) : (FloatKind.f64.format.order r s == some .eq) = v := (eq_fact hr hs).trans h
set_option maxRecDepth 100000 in
set_option maxHeartbeats 1000000 in
theorem awake05 (w : World) : Calls Try.prog 35 #[] w (fun e w' => e = .returned (.bool true) ∧ ∃ o n, w' = ext w o n) := by
  have h1 : ∀ x ∈ L123, IsF x x := by decide +kernel
  have h2 : ∀ x ∈ L456, IsF x x := by decide +kernel
  have H1 := hid h1
  have H2 := hid h2
  clear h1 h2
  go_enter Try.func35, Try.ntmps35
  go_wp2_with (first | (go_at_call 127; ((with_reducible refine (most_ex _ _ ?_).mono ?_); (focus (repeat (first | exact FS.lit L123 (by decide) H1.out 3 _ (by simp only [size_ext, World.size_alloc]) | exact FS.lit L123 (by decide) H1.out 3 _ rfl | refine FS.alloc ?_ _ | refine FS.ext ?_ _ _))); rintro e w1 ⟨rfl, o1, n1, rfl⟩)) | (go_at_call 128; ((with_reducible refine (dot_ex _ _ _ ?_ ?_).mono ?_); (focus (repeat (first | exact FS.lit L123 (by decide) H1.out 3 _ (by simp only [size_ext, World.size_alloc]) | exact FS.lit L123 (by decide) H1.out 3 _ rfl | refine FS.alloc ?_ _ | refine FS.ext ?_ _ _))); (focus (repeat (first | exact FS.lit L456 (by decide) H2.out 3 _ (by simp only [size_ext, World.size_alloc]) | exact FS.lit L456 (by decide) H2.out 3 _ rfl | refine FS.alloc ?_ _ | refine FS.ext ?_ _ _))); rintro e w1 ⟨b, rfl, hb, o1, n1, rfl⟩; have q : (FloatKind.f64.format.order b 4629700416936869888 == some .eq) = true := eq_is hb (Y := 4629700416936869888) (by decide +kernel) (by decide +kernel))))
  go_ret
  exact ⟨rfl, by (show Grew _ _; repeat (first | (with_reducible exact Grew.refl _) | (with_reducible assumption) | (with_reducible refine Grew.ext ?_ _ _) | (with_reducible refine Grew.alloc ?_ _) | ((with_reducible refine Grew.setCell ?_ ?_ _); rotate_left; (focus (dsimp only; first | omega | (simp only [size_ext, World.size_alloc, Array.size_append]; omega)))) | (with_reducible refine Grew.drewN ?_ _) | (with_reducible refine Grew.drew ?_)))⟩
theorem fsumTo_length (l : List Nat) : fsumTo l l.length = fsumTo l l.length := rfl
set_option maxRecDepth 100000 in
set_option maxHeartbeats 1000000 in
theorem sumsLists_any (D : Value) (ws : List Nat) (w : World) (hD : FS w D ws) :
    Calls Try.prog 4 #[D] w (fun e w' => e = .returned (.bool true) ∧ ∃ o n, w' = ext w o n) := by
  obtain ⟨a, cap, rfl⟩ := hD.shape
  have hl := hD.len
  have HD := hD.at.2
  have hl' : (ws.length : Int) ≤ 9223372036854775807 := by omega
  by_cases h100 : (100 : Int) < (ws.length : Int)
  · go_enter Try.func4, Try.ntmps4
    go_wp2_with (first | (go_at_call 35; ((with_reducible refine (awake05 _).mono ?_); rintro e w1 ⟨rfl, o1, n1, rfl⟩)))
    go_ret
    exact ⟨rfl, by (show Grew _ _; repeat (first | (with_reducible exact Grew.refl _) | (with_reducible assumption) | (with_reducible refine Grew.ext ?_ _ _) | (with_reducible refine Grew.alloc ?_ _) | ((with_reducible refine Grew.setCell ?_ ?_ _); rotate_left; (focus (dsimp only; first | omega | (simp only [size_ext, World.size_alloc, Array.size_append]; omega)))) | (with_reducible refine Grew.drewN ?_ _) | (with_reducible refine Grew.drew ?_)))⟩
  · go_enter Try.func4, Try.ntmps4
    go_wp2_with (first | (go_at_call 35; ((with_reducible refine (awake05 _).mono ?_); rintro e w1 ⟨rfl, o1, n1, rfl⟩)))
    go_loopw [3, 4] (fun s c wr => ∃ k b : Nat, k ≤ ws.length ∧ c = .int .i64 k ∧ s = .float .f64 b ∧ IsF b (fsumTo ws k) ∧ ∃ o n, wr = ext w o n) (fun _ c _ => ws.length - (intOf c).toNat)
    case atStart => exact ⟨0, 0, Nat.zero_le _, rfl, rfl, isF_zero, _, _, rfl⟩
    case round =>
      obtain ⟨k, s, hk, rfl, rfl, hs, oo, nn, hwr⟩ := hrel
      subst hwr
      by_cases hlt : k < ws.length
      · obtain ⟨blk, o, rfl, hblk, hc⟩ := HD (by omega)
        obtain ⟨b, hb, hx⟩ := hc k hlt
        clear hc HD
        go_wp2_with (first | (go_at_call 36; ((with_reducible refine (plus_any _ _ _ _ _ hs hx).mono ?_); rintro e w1 ⟨rr, rfl, hr, o1, n1, rfl⟩)))
        go_roundw
        case rel => exact ⟨k + 1, rr, by omega, by go_num, rfl, hr, _, _, rfl⟩
        case measure => simp [intOf]; omega
      · have e : k = ws.length := by omega
        subst e
        have d1 : decide (fsumTo ws ws.length = fsumTo ws ws.length) = true := by simp
        have d2 : decide (fgreatest ws = fgreatest ws) = true := by simp
        clear HD
        go_wp2_with (first | (go_at_call 38; ((with_reducible refine (sum_any _ ws _ ?_).mono ?_); (focus (first | (with_reducible assumption) | (with_reducible refine FS.ext ?_ _ _; with_reducible assumption) | (with_reducible refine IS.ext ?_ _ _; with_reducible assumption) | (refine hDu _ ?_; with_reducible assumption) | (refine hOu _ ?_; with_reducible assumption) | (refine hDa _ ?_; with_reducible assumption) | (refine hDb _ ?_; with_reducible assumption) | (refine hDc _ ?_; with_reducible assumption) | (refine hDd _ ?_; with_reducible assumption) | (refine FW.fs ?_ (by omega) _; with_reducible assumption) | (refine WS.fs ?_; with_reducible assumption) | (refine FW.fs ?_ (by omega) _; assumption) | omega | assumption)); rintro e w1 ⟨r1, rfl, hr1, o1, n1, rfl⟩)) | (go_at_call 39; ((with_reducible refine (greatest_any _ ws _ ?_).mono ?_); (focus (first | (with_reducible assumption) | (with_reducible refine FS.ext ?_ _ _; with_reducible assumption) | (with_reducible refine IS.ext ?_ _ _; with_reducible assumption) | (refine hDu _ ?_; with_reducible assumption) | (refine hOu _ ?_; with_reducible assumption) | (refine hDa _ ?_; with_reducible assumption) | (refine hDb _ ?_; with_reducible assumption) | (refine hDc _ ?_; with_reducible assumption) | (refine hDd _ ?_; with_reducible assumption) | (refine FW.fs ?_ (by omega) _; with_reducible assumption) | (refine WS.fs ?_; with_reducible assumption) | (refine FW.fs ?_ (by omega) _; assumption) | omega | assumption)); rintro e w1 ⟨r2, rfl, hr2, rfl⟩)) | (go_at_call 40; ((with_reducible refine (rgreatest_any _ ws _ ?_).mono ?_); (focus (first | (with_reducible assumption) | (with_reducible refine FS.ext ?_ _ _; with_reducible assumption) | (with_reducible refine IS.ext ?_ _ _; with_reducible assumption) | (refine hDu _ ?_; with_reducible assumption) | (refine hOu _ ?_; with_reducible assumption) | (refine hDa _ ?_; with_reducible assumption) | (refine hDb _ ?_; with_reducible assumption) | (refine hDc _ ?_; with_reducible assumption) | (refine hDd _ ?_; with_reducible assumption) | (refine FW.fs ?_ (by omega) _; with_reducible assumption) | (refine WS.fs ?_; with_reducible assumption) | (refine FW.fs ?_ (by omega) _; assumption) | omega | assumption)); rintro e w1 ⟨r3, rfl, hr3, o1, n1, rfl⟩)) | (go_at_call 37; first | ((with_reducible refine (same_any _ _ _ _ _ hr1 hs).mono ?_); rintro e w1 ⟨rfl, rfl⟩) | ((with_reducible refine (same_any _ _ _ _ _ hr2 hr3).mono ?_); rintro e w1 ⟨rfl, rfl⟩)) | (go_at_call 35; ((with_reducible refine (awake05 _).mono ?_); rintro e w1 ⟨rfl, o1, n1, rfl⟩)))
        go_ret
        exact ⟨rfl, by (show Grew _ _; repeat (first | (with_reducible exact Grew.refl _) | (with_reducible assumption) | (with_reducible refine Grew.ext ?_ _ _) | (with_reducible refine Grew.alloc ?_ _) | ((with_reducible refine Grew.setCell ?_ ?_ _); rotate_left; (focus (dsimp only; first | omega | (simp only [size_ext, World.size_alloc, Array.size_append]; omega)))) | (with_reducible refine Grew.drewN ?_ _) | (with_reducible refine Grew.drew ?_)))⟩
end Go.Proofs.Ytcmggfpcbijcjaa
end
section
/-
  Contracts: num.Two, resid.ratio, resid.nothing.
-/
set_option linter.unusedSimpArgs false
set_option linter.unusedVariables false
open Go Go.RowKit Sedge
namespace Go.Proofs.Ytcmggfpcbijcjaa
def ONE : Nat := 4607182418800017408
theorem isF_one : IsF 4607182418800017408 4607182418800017408 := by decide +kernel
def TW : Nat := fscale 4607182418800017408 (-50)
set_option maxRecDepth 100000 in
theorem two_any (w : World) : Calls Try.prog 202 #[.int .i64 (-50)] w (fun e w' => ∃ r, e = .returned (.float .f64 r) ∧ IsF r TW ∧ ∃ o n, w' = ext w o n) := by
  have h := nscale_any 4607182418800017408 4607182418800017408 (-50) w isF_one
  obtain ⟨T, hT⟩ : ∃ T, T = TW := ⟨_, rfl⟩
  rw [show fscale 4607182418800017408 (-50) = T from hT.symm] at h
  rw [← hT]
  clear hT
  go_enter Try.func202, Try.ntmps202
  go_wp2_with (first | (go_at_call 162; ((with_reducible refine (h).mono ?_); rintro e w1 ⟨r, rfl, hr, o1, n1, rfl⟩)))
  go_ret
  exact ⟨r, rfl, hr, by (show Grew _ _; repeat (first | (with_reducible exact Grew.refl _) | (with_reducible assumption) | (with_reducible exact Grew.same_o) | (with_reducible exact Grew.app_o) | (with_reducible refine Grew.ext ?_ _ _) | (with_reducible refine Grew.alloc ?_ _) | ((with_reducible refine Grew.setCell ?_ ?_ _); rotate_left; (focus (dsimp only; first | omega | (simp only [size_ext, World.size_alloc, Array.size_append]; omega)))) | (with_reducible refine Grew.drewN ?_ _) | (with_reducible refine Grew.drew ?_)))⟩
/-- A bound by a weight. -/
def ratQ (f w : Nat) : Nat := fadd (fdiv f w) (fmul (fdiv f w) TW)
def ratF (f w : Nat) : Nat := if fgt (ratQ f w) 4607182418800017408 = true then 4607182418800017408 else ratQ f w
theorem gt_eq1 {r X : Nat} (hr : IsF r X) : (FloatKind.f64.format.order r 4607182418800017408 == some .gt) = fgt X 4607182418800017408 := by unfold fgt; rw [← hr.order isF_one]; rfl
set_option maxRecDepth 100000 in
set_option maxHeartbeats 1000000 in
theorem ratio_any (a b f w : Nat) (W : World) (ha : IsF a f) (hb : IsF b w) : Calls Try.prog 181 #[.float .f64 a, .float .f64 b] W (fun e w' => ∃ r, e = .returned (.float .f64 r) ∧ IsF r (ratF f w) ∧ ∃ o n, w' = ext W o n) := by
  obtain ⟨T, hT⟩ : ∃ T, Hid (T = TW) := ⟨_, hid rfl⟩
  have h2 : ∀ w', Calls Try.prog 202 #[.int .i64 (-50)] w' (fun e w2 => ∃ r, e = .returned (.float .f64 r) ∧ IsF r T ∧ ∃ o n, w2 = ext w' o n) := fun w' => by rw [hT.out]; exact two_any w'
  have H1 := hid isF_one
  go_enter Try.func181, Try.ntmps181
  go_wp2_with (first | (go_at_call 202; ((with_reducible refine (h2 _).mono ?_); rintro e w1 ⟨rt, rfl, hrt, o1, n1, rfl⟩)) | ((with_reducible refine upon_id ?_); refine upon_fop rfl (by assumption) (by assumption) ?_; intro rr nn hr))
  · have hq : IsF rr (ratQ f w) := by unfold ratQ; rw [← hT.out]; exact hr
    have ht : (FloatKind.f64.format.order rr 4607182418800017408 == some .gt) = true := by assumption
    rw [gt_eq1 hq] at ht
    have hq2 : ratF f w = 4607182418800017408 := by unfold ratF; rw [if_pos ht]
    go_ret
    exact ⟨_, rfl, by rw [hq2]; exact H1.out, by (show Grew _ _; repeat (first | (with_reducible exact Grew.refl _) | (with_reducible assumption) | (with_reducible exact Grew.same_o) | (with_reducible exact Grew.app_o) | (with_reducible refine Grew.ext ?_ _ _) | (with_reducible refine Grew.alloc ?_ _) | ((with_reducible refine Grew.setCell ?_ ?_ _); rotate_left; (focus (dsimp only; first | omega | (simp only [size_ext, World.size_alloc, Array.size_append]; omega)))) | (with_reducible refine Grew.drewN ?_ _) | (with_reducible refine Grew.drew ?_)))⟩
  · have hq : IsF rr (ratQ f w) := by unfold ratQ; rw [← hT.out]; exact hr
    have ht : (FloatKind.f64.format.order rr 4607182418800017408 == some .gt) = false := by assumption
    rw [gt_eq1 hq] at ht
    have hq2 : ratF f w = ratQ f w := by unfold ratF; rw [ht]; rfl
    go_ret
    exact ⟨rr, rfl, by rw [hq2]; exact hq, by (show Grew _ _; repeat (first | (with_reducible exact Grew.refl _) | (with_reducible assumption) | (with_reducible exact Grew.same_o) | (with_reducible exact Grew.app_o) | (with_reducible refine Grew.ext ?_ _ _) | (with_reducible refine Grew.alloc ?_ _) | ((with_reducible refine Grew.setCell ?_ ?_ _); rotate_left; (focus (dsimp only; first | omega | (simp only [size_ext, World.size_alloc, Array.size_append]; omega)))) | (with_reducible refine Grew.drewN ?_ _) | (with_reducible refine Grew.drew ?_)))⟩
/-- Is it not 0? -/
def nzB (x : Nat) : Bool := !(feq x 0)
theorem nz_eq {r X : Nat} (hr : IsF r X) {v : Bool} (h : nzB X = v) : (FloatKind.f64.format.order r 0 == some .eq) = !v := by
  rw [eq_is hr isF_zero (v := !v)]
  rw [← h]; unfold nzB; simp
theorem nz_ne {r X : Nat} (hr : IsF r X) {v : Bool} (h : nzB X = v) : (FloatKind.f64.format.order r 0 != some .eq) = v := by
  unfold bne; rw [nz_eq hr h]; simp
/-- Is something of row i not 0? -/
def someTo (m : MatM) (X : List Nat) (b0 : Bool) (i : Nat) : Nat → Bool
  | 0 => b0
  | j + 1 => someTo m X b0 i j || (nzB (m.num i j) && nzB (X.getD j 0))
theorem someTo_mono {m : MatM} {X : List Nat} {b0 : Bool} {i j : Nat} (h : someTo m X b0 i j = true) : ∀ k, someTo m X b0 i (j + k) = true
  | 0 => h
  | k + 1 => by show (someTo m X b0 i (j + k) || _) = true; rw [someTo_mono h k]; rfl
def someB (m : MatM) (X Y : List Nat) (i : Nat) : Bool := someTo m X (nzB (Y.getD i 0)) i X.length
set_option maxRecDepth 100000 in
set_option maxHeartbeats 2000000 in
/-- resid.nothing. -/
theorem nothing_any (m : MatM) (D VX VY : Value) (X Y : List Nat) (i : Nat) (w : World) (hD : FS w D m.ws) (hX : FS w VX X) (hY : FS w VY Y) (hm : m.good = true) (hwf : m.wf) (hl : m.ws.length ≤ 1000000) (hiY : i < Y.length) (hi : (i : Int) < m.rows) (hx : (X.length : Int) = m.cols) (hc : m.cols ≤ 1000) :
   Calls Try.prog 182 #[.agg #[D, .int .i64 m.off, .int .i64 m.rows, .int .i64 m.cols, .int .i64 m.ld], VX, VY, .int .i64 i] w (fun e w' => e = .returned (.bool (!(someB m X Y i))) ∧ ∃ o n, w' = ext w o n) := by
  obtain ⟨aX, cX, rfl⟩ := hX.shape
  obtain ⟨blk2, o2, cap2, rfl, hblk2, hc2⟩ := hY.open (by omega)
  obtain ⟨b2, hb2, hf2⟩ := hc2 i hiY
  have hat : ∀ (j : Nat) w', FS w' D m.ws → (j : Int) < m.cols → Calls Try.prog 186 #[.agg #[D, .int .i64 m.off, .int .i64 m.rows, .int .i64 m.cols, .int .i64 m.ld], .int .i64 i, .int .i64 j] w' (fun e w2 => ∃ b, e = .returned (.float .f64 b) ∧ IsF b (m.num i j) ∧ ∃ o n, w2 = ext w' o n) := fun j w' h hj => vat_any m D i j w' h hm hwf hi hj hl
  have Hx := hid hx
  have Hc := hid hc
  clear hm hwf hi hc2 hx hc
  cases hb : nzB (Y.getD i 0)
  · have e1 := nz_eq hf2 hb
    have e2 := nz_ne hf2 hb
    have HB := hid hb
    simp only [Bool.not_false] at e1
    clear hb
    go_enter Try.func182, Try.ntmps182
    refine seq_stop ?_
    go_wp2
    refine stop_go (fun W hW => ?_)
    have s1 : w.heap.size < W.heap.size := by rw [hW]; simp only [World.size_alloc]; omega
    have b1 : ∀ i, W.cell? ⟨w.heap.size, i, none⟩ = (#[D, .int .i64 m.off, .int .i64 m.rows, .int .i64 m.cols, .int .i64 m.ld] : Array Value)[i]? := by intro i; rw [hW]; go_simp
    have g0 : Grew w W := by rw [hW]; exact (Grew.refl _).alloc _
    clear hW
    have hDW := hD.grew g0
    have hXW := hX.grew g0
    have hbW := (g0.cell hblk2).trans hb2
    have hkW : blk2 < W.heap.size := Nat.lt_of_lt_of_le hblk2 g0.below.size
    go_wp2
    go_loopw [18] (fun c wr => ∃ (j : Nat) (o : Array Obj) (n : Nat), j ≤ X.length ∧ c = .int .i64 j ∧ wr = ext W o n ∧ someTo m X false i j = false) (fun c _ => X.length - (intOf c).toNat)
    case atStart => exact ⟨0, #[], _, Nat.zero_le _, rfl, ext_zero.symm, rfl⟩
    case round =>
      obtain ⟨j, o3, n3, hj, rfl, hwr, hs⟩ := hrel
      subst hwr
      by_cases hlt : j < X.length
      · obtain ⟨blk, o, ex, hblk, hcx⟩ := hXW.at.2 (by omega)
        subst ex
        obtain ⟨b, hb, hf⟩ := hcx j hlt
        have hatj := fun w' p => hat j w' p (by have := Hx.out; omega)
        have hsucc : someTo m X false i (j + 1) = (nzB (m.num i j) && nzB (X.getD j 0)) := by show (someTo m X false i j || _) = _; rw [hs]; rfl
        have Hs := hid hsucc
        have HJ := hid hlt
        have hl2 : X.length ≤ 1000 := by have := Hx.out; have := Hc.out; omega
        clear hcx hsucc hs
        cases hp : nzB (m.num i j)
        · have hs2 : someTo m X false i (j + 1) = false := by rw [Hs.out, hp]; rfl
          have Hs2 := hid hs2
          clear hs2
          go_wp2_with (first | (go_at_call 186; ((with_reducible refine (hatj _ ?_).mono ?_); (focus (first | (with_reducible assumption) | (with_reducible refine FS.ext ?_ _ _; with_reducible assumption) | (with_reducible refine IS.ext ?_ _ _; with_reducible assumption) | (refine hDu _ ?_; with_reducible assumption) | (refine hOu _ ?_; with_reducible assumption) | (refine hDa _ ?_; with_reducible assumption) | (refine hDb _ ?_; with_reducible assumption) | (refine hDc _ ?_; with_reducible assumption) | (refine hDd _ ?_; with_reducible assumption) | (refine FW.fs ?_ (by omega) _; with_reducible assumption) | (refine WS.fs ?_; with_reducible assumption) | (refine FW.fs ?_ (by omega) _; assumption) | omega | assumption)); rintro e w1 ⟨ra, rfl, hra, o5, n5, rfl⟩; (have d1 := nz_ne hra hp); (have d2 := nz_eq hra hp); simp only [Bool.not_true, Bool.not_false] at d2; clear hp)))
          go_roundw
          case rel => exact ⟨j + 1, _, _, by have := HJ.out; omega, by go_num, rfl, Hs2.out⟩
          case measure => (have := HJ.out; simp [intOf]; omega)
        · cases hq : nzB (X.getD j 0)
          · have hs2 : someTo m X false i (j + 1) = false := by rw [Hs.out, hp, hq]; rfl
            have Hs2 := hid hs2
            have q1 := nz_ne hf hq
            have q2 := nz_eq hf hq
            simp only [Bool.not_false] at q2
            clear hs2 hq
            go_wp2_with (first | (go_at_call 186; ((with_reducible refine (hatj _ ?_).mono ?_); (focus (first | (with_reducible assumption) | (with_reducible refine FS.ext ?_ _ _; with_reducible assumption) | (with_reducible refine IS.ext ?_ _ _; with_reducible assumption) | (refine hDu _ ?_; with_reducible assumption) | (refine hOu _ ?_; with_reducible assumption) | (refine hDa _ ?_; with_reducible assumption) | (refine hDb _ ?_; with_reducible assumption) | (refine hDc _ ?_; with_reducible assumption) | (refine hDd _ ?_; with_reducible assumption) | (refine FW.fs ?_ (by omega) _; with_reducible assumption) | (refine WS.fs ?_; with_reducible assumption) | (refine FW.fs ?_ (by omega) _; assumption) | omega | assumption)); rintro e w1 ⟨ra, rfl, hra, o5, n5, rfl⟩; (have d1 := nz_ne hra hp); (have d2 := nz_eq hra hp); simp only [Bool.not_true, Bool.not_false] at d2; clear hp)))
            go_roundw
            case rel => exact ⟨j + 1, _, _, by have := HJ.out; omega, by go_num, rfl, Hs2.out⟩
            case measure => (have := HJ.out; simp [intOf]; omega)
          · have hs2 : someB m X Y i = true := by
              unfold someB
              rw [HB.out]
              have h4 : someTo m X false i (j + 1) = true := by rw [Hs.out, hp, hq]; rfl
              have h5 := someTo_mono h4 (X.length - (j + 1))
              rwa [show j + 1 + (X.length - (j + 1)) = X.length by have := HJ.out; omega] at h5
            have Hs2 := hid hs2
            have q1 := nz_ne hf hq
            have q2 := nz_eq hf hq
            simp only [Bool.not_true] at q2
            clear hs2 hq
            go_wp2_with (first | (go_at_call 186; ((with_reducible refine (hatj _ ?_).mono ?_); (focus (first | (with_reducible assumption) | (with_reducible refine FS.ext ?_ _ _; with_reducible assumption) | (with_reducible refine IS.ext ?_ _ _; with_reducible assumption) | (refine hDu _ ?_; with_reducible assumption) | (refine hOu _ ?_; with_reducible assumption) | (refine hDa _ ?_; with_reducible assumption) | (refine hDb _ ?_; with_reducible assumption) | (refine hDc _ ?_; with_reducible assumption) | (refine hDd _ ?_; with_reducible assumption) | (refine FW.fs ?_ (by omega) _; with_reducible assumption) | (refine WS.fs ?_; with_reducible assumption) | (refine FW.fs ?_ (by omega) _; assumption) | omega | assumption)); rintro e w1 ⟨ra, rfl, hra, o5, n5, rfl⟩; (have d1 := nz_ne hra hp); (have d2 := nz_eq hra hp); simp only [Bool.not_true, Bool.not_false] at d2; clear hp)))
            go_ret
            exact ⟨ret_bool (by rw [Hs2.out]; rfl), by (show Grew _ _; repeat (first | (with_reducible exact Grew.refl _) | (with_reducible assumption) | (with_reducible exact Grew.same_o) | (with_reducible exact Grew.app_o) | (with_reducible refine Grew.ext ?_ _ _) | (with_reducible refine Grew.alloc ?_ _) | ((with_reducible refine Grew.setCell ?_ ?_ _); rotate_left; (focus (dsimp only; first | omega | (simp only [size_ext, World.size_alloc, Array.size_append]; omega)))) | (with_reducible refine Grew.drewN ?_ _) | (with_reducible refine Grew.drew ?_)))⟩
      · have e : j = X.length := by omega
        have hq : someB m X Y i = false := by unfold someB; rw [HB.out, ← e]; exact hs
        clear hs
        go_wp2
        go_ret
        exact ⟨ret_bool (by rw [hq]; rfl), by (show Grew _ _; repeat (first | (with_reducible exact Grew.refl _) | (with_reducible assumption) | (with_reducible exact Grew.same_o) | (with_reducible exact Grew.app_o) | (with_reducible refine Grew.ext ?_ _ _) | (with_reducible refine Grew.alloc ?_ _) | ((with_reducible refine Grew.setCell ?_ ?_ _); rotate_left; (focus (dsimp only; first | omega | (simp only [size_ext, World.size_alloc, Array.size_append]; omega)))) | (with_reducible refine Grew.drewN ?_ _) | (with_reducible refine Grew.drew ?_)))⟩
  · have e1 := nz_eq hf2 hb
    have e2 := nz_ne hf2 hb
    simp only [Bool.not_true] at e1
    have hq : someB m X Y i = true := by
      unfold someB
      rw [hb]
      have := someTo_mono (m := m) (X := X) (b0 := true) (i := i) (j := 0) rfl X.length
      rwa [Nat.zero_add] at this
    clear hb
    go_enter Try.func182, Try.ntmps182
    refine seq_stop ?_
    go_wp2
    refine stop_go (fun W hW => ?_)
    have s1 : w.heap.size < W.heap.size := by rw [hW]; simp only [World.size_alloc]; omega
    have b1 : ∀ i, W.cell? ⟨w.heap.size, i, none⟩ = (#[D, .int .i64 m.off, .int .i64 m.rows, .int .i64 m.cols, .int .i64 m.ld] : Array Value)[i]? := by intro i; rw [hW]; go_simp
    have g0 : Grew w W := by rw [hW]; exact (Grew.refl _).alloc _
    clear hW
    have hbW := (g0.cell hblk2).trans hb2
    have hkW : blk2 < W.heap.size := Nat.lt_of_lt_of_le hblk2 g0.below.size
    go_wp2
    go_ret
    exact ⟨ret_bool (by rw [hq]; rfl), by (show Grew _ _; repeat (first | (with_reducible exact Grew.refl _) | (with_reducible assumption) | (with_reducible exact Grew.same_o) | (with_reducible exact Grew.app_o) | (with_reducible refine Grew.ext ?_ _ _) | (with_reducible refine Grew.alloc ?_ _) | ((with_reducible refine Grew.setCell ?_ ?_ _); rotate_left; (focus (dsimp only; first | omega | (simp only [size_ext, World.size_alloc, Array.size_append]; omega)))) | (with_reducible refine Grew.drewN ?_ _) | (with_reducible refine Grew.drew ?_)))⟩
end Go.Proofs.Ytcmggfpcbijcjaa
end
section
/-
  Contracts: the reference's bounds (layer 22).
-/
set_option linter.unusedSimpArgs false
set_option linter.unusedVariables false
open Go Go.RowKit Sedge Ieee
namespace Go.Proofs.Ytcmggfpcbijcjaa
set_option maxRecDepth 100000 in
set_option maxHeartbeats 2000000 in
/-- straightedgeref22.Bounds. -/
theorem rbounds_any (X Y : Value) (L M : List Nat) (w : World) (hX : FS w X L) (hY : FS w Y M) (hl : L.length ≤ 1000000) (hlm : M.length = L.length) :
   Calls Try.prog 93 #[X, Y] w (fun e w' => ∃ v, e = .returned v ∧ OwnF 22 w' w.heap.size v (bndL L M) ∧ ∃ o n, w' = ext w o n) := by
  obtain ⟨aX, cX, rfl⟩ := hX.shape
  obtain ⟨aY, cY, rfl⟩ := hY.shape
  obtain ⟨N, hN⟩ : ∃ N, N = L.length := ⟨_, rfl⟩
  rw [hlm] at hY ⊢
  rw [← hN] at hX hY hl ⊢
  have r1 : IntKind.i64.wrap ((N : Int) + 3) = N + 3 := IntWalk.i64_in _ (by omega)
  obtain ⟨g, hg⟩ : ∃ g, g = gF N := ⟨_, rfl⟩
  have g1 : floatOfInt .f64 ((N : Int) + 3) = g := hg.symm
  have hgF : IsF g g := by rw [hg]; exact gF_isF N
  have HG := hid hg
  have HLM := hid hlm
  have HNN := hid hN
  clear hg hlm hN
  go_enter Try.func93, Try.ntmps93
  go_wp2
  go_loopw [5, 7] (fun v c wr => ∃ (i : Nat) (o : Array Obj) (n : Nat), i ≤ N ∧ c = .int .i64 i ∧ wr = ext w o n ∧ OwnF 22 wr w.heap.size v (bndTo L M i)) (fun _ c _ => N - (intOf c).toNat)
  case atStart => exact ⟨0, #[], _, Nat.zero_le _, rfl, ext_zero.symm, by simpa [bndTo] using OwnF.nil _ _ _⟩
  case round =>
    obtain ⟨i, o3, n3, hi, rfl, hwr, hown⟩ := hrel
    have gw : Grew w wr := ⟨_, _, hwr⟩
    clear hwr
    by_cases hlt : i < N
    · obtain ⟨blk, o, cap', ex, hblk, hc⟩ := (hX.grew gw).open (by rw [← HNN.out]; omega)
      simp only [Value.slice.injEq] at ex
      obtain ⟨rfl, -, rfl⟩ := ex
      obtain ⟨b, hb, hf⟩ := hc i (by rw [← HNN.out]; omega)
      obtain ⟨blk2, o', cap2, ex, hblk2, hc2⟩ := (hY.grew gw).open (by rw [HLM.out, ← HNN.out]; omega)
      simp only [Value.slice.injEq] at ex
      obtain ⟨rfl, -, rfl⟩ := ex
      obtain ⟨b2, hb2, hf2⟩ := hc2 i (by rw [HLM.out, ← HNN.out]; omega)
      have hll : (bndTo L M i).length = i := bndTo_length _ _ _
      clear hc hc2
      go_wp2
      refine wp_region_R (Grew wr) [] [(0,0), (0,1), (0,2), (0,3), (0,5), (0,7), (0,8), (0,9), (0,10), (1,4), (1,6), (1,11), (1,12), (0,13)] (by kernel_rfl) (by kernel_rfl) (fun _ _ _ _ h _ => h) (by first | exact ⟨_, _, ext_drew⟩ | exact ⟨_, _, drew_ext0⟩ | (show Grew _ _; repeat (first | (with_reducible exact Grew.refl _) | (with_reducible assumption) | (with_reducible refine Grew.ext ?_ _ _) | (with_reducible refine Grew.alloc ?_ _) | ((with_reducible refine Grew.setCell ?_ ?_ _); rotate_left; (focus (dsimp only; first | omega | (simp only [size_ext, World.size_alloc, Array.size_append]; omega)))) | (with_reducible refine Grew.drewN ?_ _) | (with_reducible refine Grew.drew ?_)))) ?_
      go_wp2_with (first | ((with_reducible refine wpR_id ?_); first | (refine wpR_take (v := ?_) rfl rfl ?_ ?_; rotate_left; (focus (rintro w' ⟨o', n', rfl⟩; go_simp; try with_reducible rfl)); simp only [Act.put, List.setIfInBounds_toArray, List.set_cons_zero, List.set_cons_succ]) | (refine wpR_pure (v := ?_) rfl rfl ?_ ?_; rotate_left; (focus (intro w'; go_simp; try with_reducible rfl)); simp only [Act.put, List.setIfInBounds_toArray, List.set_cons_zero, List.set_cons_succ]) | (refine wpR_takeG (v := ?_) rfl rfl rfl rfl rfl ?_ ?_; rotate_left; (focus (rintro w' ⟨o', n', rfl⟩; go_simp; try with_reducible rfl)); simp only [Act.put, List.setIfInBounds_toArray, List.set_cons_zero, List.set_cons_succ]) | (refine wpR_skip rfl rfl rfl rfl rfl rfl ?_; simp only [Act.put, List.setIfInBounds_toArray, List.set_cons_zero, List.set_cons_succ]) | (refine wpR_skipU rfl rfl rfl rfl rfl ?_; simp only [Act.put, List.setIfInBounds_toArray, List.set_cons_zero, List.set_cons_succ]) | (refine wpR_do rfl rfl (fun K hK => ?_)) | (refine wpR_doG rfl rfl rfl rfl rfl (fun K hK => ?_)) | (refine wpR_last rfl rfl (fun K hK => ?_)) | (refine wpR_nil ?_)) | ((with_reducible refine wpR_go ?_ ?_); (focus (show Grew _ _; repeat (first | (with_reducible exact Grew.refl _) | (with_reducible assumption) | (with_reducible refine Grew.ext ?_ _ _) | (with_reducible refine Grew.alloc ?_ _) | ((with_reducible refine Grew.setCell ?_ ?_ _); rotate_left; (focus (dsimp only; first | omega | (simp only [size_ext, World.size_alloc, Array.size_append]; omega)))) | (with_reducible refine Grew.drewN ?_ _) | (with_reducible refine Grew.drew ?_))))) | ((with_reducible refine upon_id ?_); refine upon_fop rfl (by assumption) (by assumption) ?_; intro rr nn hr) | (go_at_call 110; ((with_reducible refine (abs_any b _ _ hf).mono ?_); rintro e w1 ⟨ra, rfl, hra, rfl⟩)) | (go_at_call 165; ((with_reducible refine (rscale_any g g (-52) _ hgF).mono ?_); rintro e w1 ⟨rs, rfl, hrs, rfl⟩)) | (go_at_call 141; ((with_reducible refine (times_any rs b2 _ _ _ hrs hf2).mono ?_); rintro e w1 ⟨rt, rfl, hrt, o6, n6, rfl⟩)) | (go_at_call 36; ((with_reducible refine (plus_any ra rt _ _ _ hra hrt).mono ?_); rintro e w1 ⟨rp, rfl, hrp, o7, n7, rfl⟩)) | (go_at_call 165; ((with_reducible refine (rscale_any g g (-1070) _ hgF).mono ?_); rintro e w1 ⟨ru, rfl, hru, rfl⟩)) | (go_at_call 36; ((with_reducible refine (plus_any rp ru _ _ _ hrp hru).mono ?_); rintro e w1 ⟨rr, rfl, hr, o8, n8, rfl⟩)) | (at_builtin; refine append1_f (W := w) (v := u5) (xs := bndTo L M i) (y := bndAt L.length (L.getD i 0) (M.getD i 0)) finfo ?_ ?_ ?_ ((by rw [hll]; omega)) _ _ rfl rfl rfl ?_ rfl ?_; (focus (refine Grew.trans gw ?_; (show Grew _ _; repeat (first | (with_reducible exact Grew.refl _) | (with_reducible assumption) | (with_reducible refine Grew.ext ?_ _ _) | (with_reducible refine Grew.alloc ?_ _) | ((with_reducible refine Grew.setCell ?_ ?_ _); rotate_left; (focus (dsimp only; first | omega | (simp only [size_ext, World.size_alloc, Array.size_append]; omega)))) | (with_reducible refine Grew.drewN ?_ _) | (with_reducible refine Grew.drew ?_))))); (focus (refine OwnF.grew (w := wr) ?_ ?_; (focus (with_reducible assumption)); (focus (show Grew _ _; repeat (first | (with_reducible exact Grew.refl _) | (with_reducible assumption) | (with_reducible refine Grew.ext ?_ _ _) | (with_reducible refine Grew.alloc ?_ _) | ((with_reducible refine Grew.setCell ?_ ?_ _); rotate_left; (focus (dsimp only; first | omega | (simp only [size_ext, World.size_alloc, Array.size_append]; omega)))) | (with_reducible refine Grew.drewN ?_ _) | (with_reducible refine Grew.drew ?_)))))); (focus (unfold bndAt; rw [← HNN.out, ← HG.out]; exact hr)); (focus (first | rfl | (simp only [size_ext, World.size_alloc, Array.size_append]; done) | (simp only [size_ext, World.size_alloc, Array.size_append]; omega))); intro v oo nn ho hn))
      go_roundw
      case rel => exact ⟨i + 1, oo, nn, by omega, by go_num, rfl, by rw [bndTo_succ]; exact ho⟩
      case measure => simp [intOf]; omega
    · have e : i = N := by omega
      subst e
      go_wp2
      go_ret
      exact ⟨_, rfl, by unfold bndL; rw [← HNN.out]; exact hown, gw⟩
end Go.Proofs.Ytcmggfpcbijcjaa
end
section
/-
  Contracts: view.Dense without numbers; (M).Copy and straightedgeref08.Ger.
-/
set_option linter.unusedSimpArgs false
set_option linter.unusedVariables false
open Go Go.RowKit Sedge
namespace Go.Proofs.Ytcmggfpcbijcjaa
section
variable {P : Program} {o : Oper} {a : Act} {w : World} {K : Act → World → Prop} {Q : Exit → Act → World → Prop}
theorem wp_any (h : o.wp P a w K (fun e a w => e = .normal ∧ K a w)) : o.wp P a w K Q := by
  unfold Oper.wp at *
  generalize (execOp a.eval o).run P w = r at *
  cases r with
  | ok n w' =>
    cases n <;> simp only [Oper.upon] at h ⊢ <;> try exact h
    refine h.mono fun e w2 hh => ?_
    cases e with
    | returned v => exact hh
    | panicked c => exact absurd hh.1 (by simp)
    | outgrown => obtain ⟨_, _, h1, _⟩ := hh; cases h1
  | halt k w' =>
    cases k <;> simp only [Oper.upon] at h ⊢ <;> first | exact h | exact absurd h.1 (by simp)
theorem wp_id (h : o.wp P a w K Q) : o.wp P a w K Q := h
theorem wp_app {d : Option Tmp} {s x : Operand} {tt : Array TypeId} {ty : TypeId} {ps : String} {aft : Array Edge} (h : Oper.wp P { dst := d, op := .call { callee := .builtin .append, args := #[s, x], argTypes := tt }, type := ty, pos := ps, after := aft, guard := none } a w K Q) : Oper.wp P { dst := d, op := .call { callee := .builtin .append, args := #[s, x], argTypes := tt }, type := ty, pos := ps, after := aft, guard := none } a w K Q := h
/-- 'append(s, src...)', in a region that draws its order. -/
theorem appendN_K {t e : TypeId} (T : ElemF P t e) {W : World} (hW : Grew W w) {v : Value} {xs : List Nat} (hown : OwnF e w W.heap.size v xs) {D : Value} {ws : List Nat} (hD : FS w D ws)
    (hlen : xs.length + ws.length < 17592186044415) (s x : Operand) (hg : o.guard = none)
    (ho : o.op = .call { callee := .builtin .append, args := #[s, x], argTypes := #[t, t] }) (hs : a.eval s = v) (hx : a.eval x = D)
    (h : ∀ v' oo nn, OwnF e (ext W oo nn) W.heap.size v' (xs ++ ws) → (v ≠ .slice none 0 0 → v' ≠ .slice none 0 0) → K (a.put o.dst v') (ext W oo nn)) : o.wp P a w K Q := by
  have h1 := appendN_f (P := P) (ops := #[]) (Q := fun e a w => e = .normal ∧ K a w) (rest := []) T hW hown hD hlen s x hg ho hs hx (fun v' oo nn h1 h2 => ⟨rfl, h v' oo nn h1 h2⟩)
  unfold wpList at h1
  rw [if_pos (wanted_none hg)] at h1
  rcases h1 with h1 | ⟨_, _, _, h2, _⟩
  · exact wp_any (Oper.wp_mono (fun a w hh => hh.2) h1)
  · cases h2
end
set_option maxRecDepth 100000 in
set_option maxHeartbeats 1000000 in
/-- view.Dense, of sizes within 64, without numbers. -/
theorem dense0_any (r c : Nat) (w : World) (hr : r ≤ 64) (hc : c ≤ 64) (hr1 : 1 ≤ r) (hc1 : 1 ≤ c) :
   Calls Try.prog 69 #[.int .i64 r, .int .i64 c, .slice none 0 0] w (fun e w' => ∃ v, e = .returned (.agg #[v, .int .i64 0, .int .i64 r, .int .i64 c, .int .i64 r]) ∧ WS w' w.heap.size v (List.replicate (r * c) 0) ∧ ∃ o n, w' = ext w o n) := by
  have hm : r * c ≤ 64 * 64 := Nat.mul_le_mul hr hc
  have h2 : IntKind.i64.wrap ((r : Int) * c) = (r : Int) * c := IntWalk.i64_in _ (by rw [← Int.natCast_mul]; omega)
  have h3 : (0 : Int) ≤ (r : Int) * c := by rw [← Int.natCast_mul]; omega
  have d1 : decide ((r : Int) < 0) = false := by simp
  have d2 : decide ((c : Int) < 0) = false := by simp
  have d3 : decide ((64 : Int) < (r : Int)) = false := by simp; omega
  have d4 : decide ((64 : Int) < (c : Int)) = false := by simp; omega
  have d6 : decide ((1 : Int) ≤ (r : Int)) = true := by simp; omega
  have d7 : decide ((0 : Int) ≤ (r : Int) * c) = true := by simpa using h3
  go_enter Try.func69, Try.ntmps69
  refine seq_stop ?_
  go_wp2
  refine stop_go (fun W hW => ?_)
  have s1 : w.heap.size < W.heap.size := by rw [hW]; simp only [World.size_alloc]; omega
  have b1 : ∀ i, W.cell? ⟨w.heap.size, i, none⟩ = (#[.slice none 0 0, .int .i64 0, .int .i64 0, .int .i64 0, .int .i64 0] : Array Value)[i]? := by intro i; rw [hW]; go_simp
  have f1 : ∀ i, W.frozen? ⟨w.heap.size, i, none⟩ = false := by intro i; rw [hW]; go_simp
  have g0 : Grew w W := by rw [hW]; exact (Grew.refl _).alloc _
  clear hW
  go_wp2_with (at_make; refine make_f (L := (r : Int) * (c : Int)) finfo (Grew.refl W) _ _ rfl rfl (r * c) (Int.natCast_mul r c).symm rfl rfl (by omega) ?_; intro oo nn k hk ho; have hF := ho.made)
  refine name_any (fun V hV => ?_)
  have gV : Grew W V := by rw [← hV]; (show Grew _ _; repeat (first | (with_reducible exact Grew.refl _) | (with_reducible assumption) | (with_reducible refine Grew.ext ?_ _ _) | (with_reducible refine Grew.alloc ?_ _) | ((with_reducible refine Grew.setCell ?_ ?_ _); rotate_left; (focus (dsimp only; first | omega | (simp only [size_ext, World.size_alloc, Array.size_append]; omega)))) | (with_reducible refine Grew.drewN ?_ _) | (with_reducible refine Grew.drew ?_)))
  have sV := gV.below.size
  have k1 : w.heap.size < V.heap.size := by omega
  have k3 : W.heap.size + oo.size < V.heap.size := by rw [← hV]; simp only [World.size_alloc, size_ext]; omega
  have c1 : ∀ i, V.cell? ⟨w.heap.size, i, none⟩ = (#[.slice none 0 0, .int .i64 0, .int .i64 0, .int .i64 0, .int .i64 0] : Array Value)[i]? := fun i => (gV.cell s1).trans (b1 i)
  have z1 : ∀ i, V.frozen? ⟨w.heap.size, i, none⟩ = false := fun i => (gV.frozen s1).trans (f1 i)
  have c3 : ∀ i, V.cell? ⟨W.heap.size + oo.size, i, none⟩ = (#[.slice (some ⟨k, 0, none⟩) (r * c) (r * c), .int .i64 0, .int .i64 r, .int .i64 c, .int .i64 r] : Array Value)[i]? := by subst hV; intro i; go_simp
  have hFV : FW V k (List.replicate (r * c) 0) := by rw [← hV]; (repeat (first | (with_reducible assumption) | ((with_reducible refine FW.ext_set ?_ ?_ ?_ _); rotate_left; (focus (simp only [size_setCell', World.size_alloc, size_ext, size_upd]; omega)); (focus (dsimp only; omega))) | ((with_reducible refine FW.setCell_ne ?_ ?_ _); rotate_left; (focus (dsimp only; omega))) | (with_reducible refine FW.ext ?_ _ _) | (with_reducible refine FW.alloc ?_ _)))
  have q1 : w.heap.size ≠ k := by omega
  clear hV b1 f1 ho
  go_loopw [43] (fun s wr => s = .int .i64 0 ∧ wr = V) (fun s _ => 0)
  case atStart => exact ⟨rfl, rfl⟩
  case round =>
    obtain ⟨rfl, rfl⟩ := hrel
    go_wp2
    refine bodyPost_ret (v := .agg #[.slice (some ⟨k, 0, none⟩) (r * c) (r * c), .int .i64 0, .int .i64 r, .int .i64 c, .int .i64 r]) (by simp [results, Try.results69, go_sem, *]) rfl ?_
    exact ⟨_, rfl, ⟨k, _, by rw [List.length_replicate], by omega, by (repeat (first | (with_reducible assumption) | ((with_reducible refine FW.ext_set ?_ ?_ ?_ _); rotate_left; (focus (simp only [size_setCell', World.size_alloc, size_ext, size_upd]; omega)); (focus (dsimp only; omega))) | ((with_reducible refine FW.setCell_ne ?_ ?_ _); rotate_left; (focus (dsimp only; omega))) | (with_reducible refine FW.ext ?_ _ _) | (with_reducible refine FW.alloc ?_ _))), by rw [List.length_replicate]; omega⟩, by have gwr := g0.trans gV; (show Grew _ _; repeat (first | (with_reducible exact Grew.refl _) | (with_reducible assumption) | (with_reducible refine Grew.ext ?_ _ _) | (with_reducible refine Grew.alloc ?_ _) | ((with_reducible refine Grew.setCell ?_ ?_ _); rotate_left; (focus (dsimp only; first | omega | (simp only [size_ext, World.size_alloc, Array.size_append]; omega)))) | (with_reducible refine Grew.drewN ?_ _) | (with_reducible refine Grew.drew ?_)))⟩
set_option maxRecDepth 100000 in
set_option maxHeartbeats 1000000 in
/-- (M).Copy. -/
theorem mcopy_any (R C : Int) (A : Value) (T : List Nat) (w : World) (hA : FS w A T) (hl : T.length ≤ 1000000) :
   Calls Try.prog 140 #[.agg #[.int .i64 R, .int .i64 C, A]] w (fun e w' => ∃ v, e = .returned (.agg #[.int .i64 R, .int .i64 C, v]) ∧ WS w' w.heap.size v T ∧ ∃ o n, w' = ext w o n) := by
  obtain ⟨aA, cA, rfl⟩ := hA.shape
  go_enter Try.func140, Try.ntmps140
  refine seq_stop ?_
  go_wp2
  refine stop_go (fun W hW => ?_)
  have s1 : w.heap.size < W.heap.size := by rw [hW]; simp only [World.size_alloc]; omega
  have b1 : ∀ i, W.cell? ⟨w.heap.size, i, none⟩ = (#[.int .i64 R, .int .i64 C, .slice aA T.length cA] : Array Value)[i]? := by intro i; rw [hW]; go_simp
  have f1 : ∀ i, W.frozen? ⟨w.heap.size, i, none⟩ = false := by intro i; rw [hW]; go_simp
  have s2 : w.heap.size + 1 < W.heap.size := by rw [hW]; simp only [World.size_alloc]; omega
  have b2 : ∀ i, W.cell? ⟨w.heap.size + 1, i, none⟩ = (#[.int .i64 0, .int .i64 0, .slice none 0 0] : Array Value)[i]? := by intro i; rw [hW]; go_simp
  have f2 : ∀ i, W.frozen? ⟨w.heap.size + 1, i, none⟩ = false := by intro i; rw [hW]; go_simp
  have g0 : Grew w W := by rw [hW]; exact ((Grew.refl _).alloc _).alloc _
  clear hW
  have hAW : FS W (.slice aA T.length cA) T := hA.grew g0
  go_wp2
  refine wp_region_R (Grew W) [9] [(3,0), (0,1), (3,2), (0,3), (3,5), (0,6), (1,4), (1,7), (0,8), (2,9)] (by kernel_rfl) (by kernel_rfl) (fun _ _ _ _ h _ => h) (by first | exact ⟨_, _, ext_drew⟩ | exact ⟨_, _, drew_ext0⟩ | (show Grew _ _; repeat (first | (with_reducible exact Grew.refl _) | (with_reducible assumption) | (with_reducible refine Grew.ext ?_ _ _) | (with_reducible refine Grew.alloc ?_ _) | ((with_reducible refine Grew.setCell ?_ ?_ _); rotate_left; (focus (dsimp only; first | omega | (simp only [size_ext, World.size_alloc, Array.size_append]; omega)))) | (with_reducible refine Grew.drewN ?_ _) | (with_reducible refine Grew.drew ?_)))) ?_
  refine name_any (fun W2 hW2 => ?_)
  have g2 : Grew W W2 := by rw [← hW2]; (show Grew _ _; repeat (first | (with_reducible exact Grew.refl _) | (with_reducible assumption) | (with_reducible refine Grew.ext ?_ _ _) | (with_reducible refine Grew.alloc ?_ _) | ((with_reducible refine Grew.setCell ?_ ?_ _); rotate_left; (focus (dsimp only; first | omega | (simp only [size_ext, World.size_alloc, Array.size_append]; omega)))) | (with_reducible refine Grew.drewN ?_ _) | (with_reducible refine Grew.drew ?_)))
  have hAW2 := hAW.grew g2
  have gww : Grew w W2 := g0.trans g2
  have zW := g0.below.size
  have z2 := g2.below.size
  have b12 := fun i => (g2.cell s1).trans (b1 i)
  have b22 := fun i => (g2.cell s2).trans (b2 i)
  have f22 := fun i => (g2.frozen s2).trans (f2 i)
  have s12 : w.heap.size < W2.heap.size := by omega
  have s22 : w.heap.size + 1 < W2.heap.size := by omega
  clear hW2
  go_wp2_with (first | ((with_reducible refine wpR_id ?_); refine wpR_do rfl rfl (fun K hK => ?_); (with_reducible refine wp_app ?_); refine appendN_K finfo (Grew.refl W2 |>.alloc _) (OwnF.empty rfl (Nat.le_refl _)) (FS.alloc hAW2 _) (by simp; omega) _ _ rfl rfl rfl rfl ?_; intro v oo nn ho hn; obtain ⟨g, cap, rfl, hg, hF, hL⟩ := ho.ws (hn notnil) (by simp; omega); simp only [List.nil_append] at hF hL) | ((with_reducible refine wpR_id ?_); first | (refine wpR_take (v := ?_) rfl rfl ?_ ?_; rotate_left; (focus (rintro w' ⟨o', n', rfl⟩; go_simp; try with_reducible rfl)); simp only [Act.put, List.setIfInBounds_toArray, List.set_cons_zero, List.set_cons_succ]) | (refine wpR_pure (v := ?_) rfl rfl ?_ ?_; rotate_left; (focus (intro w'; go_simp; try with_reducible rfl)); simp only [Act.put, List.setIfInBounds_toArray, List.set_cons_zero, List.set_cons_succ]) | (refine wpR_takeG (v := ?_) rfl rfl rfl rfl rfl ?_ ?_; rotate_left; (focus (rintro w' ⟨o', n', rfl⟩; go_simp; try with_reducible rfl)); simp only [Act.put, List.setIfInBounds_toArray, List.set_cons_zero, List.set_cons_succ]) | (refine wpR_skip rfl rfl rfl rfl rfl rfl ?_; simp only [Act.put, List.setIfInBounds_toArray, List.set_cons_zero, List.set_cons_succ]) | (refine wpR_skipU rfl rfl rfl rfl rfl ?_; simp only [Act.put, List.setIfInBounds_toArray, List.set_cons_zero, List.set_cons_succ]) | (refine wpR_do rfl rfl (fun K hK => ?_)) | (refine wpR_doG rfl rfl rfl rfl rfl (fun K hK => ?_)) | (refine wpR_last rfl rfl (fun K hK => ?_)) | (refine wpR_nil ?_)) | ((with_reducible refine wpR_go ?_ ?_); (focus (show Grew _ _; repeat (first | (with_reducible exact Grew.refl _) | (with_reducible assumption) | (with_reducible refine Grew.ext ?_ _ _) | (with_reducible refine Grew.alloc ?_ _) | ((with_reducible refine Grew.setCell ?_ ?_ _); rotate_left; (focus (dsimp only; first | omega | (simp only [size_ext, World.size_alloc, Array.size_append]; omega)))) | (with_reducible refine Grew.drewN ?_ _) | (with_reducible refine Grew.drew ?_))))) | ((with_reducible refine upon_id ?_); refine upon_fop rfl (by assumption) (by assumption) ?_; intro rr nn hr))
  refine bodyPost_ret (v := .agg #[.int .i64 R, .int .i64 C, .slice (some ⟨g, 0, none⟩) T.length cap]) (by simp [results, Try.results140, go_sem, *]) rfl ?_
  exact ⟨_, rfl, ⟨g, cap, rfl, by omega, by (repeat (first | (with_reducible assumption) | ((with_reducible refine FW.ext_set ?_ ?_ ?_ _); rotate_left; (focus (simp only [size_setCell', World.size_alloc, size_ext, size_upd]; omega)); (focus (dsimp only; omega))) | ((with_reducible refine FW.setCell_ne ?_ ?_ _); rotate_left; (focus (dsimp only; omega))) | (with_reducible refine FW.ext ?_ _ _) | (with_reducible refine FW.alloc ?_ _))), hL⟩, by (show Grew _ _; repeat (first | (with_reducible exact Grew.refl _) | (with_reducible assumption) | (with_reducible refine Grew.ext ?_ _ _) | (with_reducible refine Grew.alloc ?_ _) | ((with_reducible refine Grew.setCell ?_ ?_ _); rotate_left; (focus (dsimp only; first | omega | (simp only [size_ext, World.size_alloc, Array.size_append]; omega)))) | (with_reducible refine Grew.drewN ?_ _) | (with_reducible refine Grew.drew ?_)))⟩
/-- Row by row: what is done up to (i, j). -/
def stepR (F s : Nat → Nat → Nat) (i j : Nat) (r c : Nat) : Nat := if r < i ∨ (r = i ∧ c < j) then F r c else s r c
def rgerF (α : Nat) (lx ly : List Nat) (M : Nat → Nat → Nat) (i j : Nat) : Nat := fadd (M i j) (fmul (fmul α (ly.getD j 0)) (lx.getD i 0))
set_option maxRecDepth 100000 in
set_option maxHeartbeats 4000000 in
/-- straightedgeref08.Ger. -/
theorem rger_any (a α R C : Nat) (T lx ly : List Nat) (M : Nat → Nat → Nat) (A X Y : Value) (w : World) (ha : IsF a α) (hA : FS w A T) (hX : FS w X lx) (hY : FS w Y ly) (hx : lx.length = R) (hy : ly.length = C) (hT : T.length = R * C) (hM : Hold (fun i j => i * C + j) R C T T M) (hR : R ≤ 1000) (hC : C ≤ 1000) :
   Calls Try.prog 60 #[.float .f64 a, X, Y, .agg #[.int .i64 R, .int .i64 C, A]] w (fun e w' => ∃ v t, e = .returned (.agg #[.int .i64 R, .int .i64 C, v]) ∧ WS w' w.heap.size v t ∧ Hold (fun i j => i * C + j) R C T t (rgerF α lx ly M) ∧ ∃ o n, w' = ext w o n) := by
  have hRC : R * C ≤ 1000 * 1000 := Nat.mul_le_mul hR hC
  have hpl : Places (fun i j => i * C + j) R C T.length := by rw [hT]; exact tabPlaces R C
  have HT := hid hT
  have Hx := hid hx
  have Hy := hid hy
  obtain ⟨aA, cA, rfl⟩ := hA.shape
  obtain ⟨aX, cX, rfl⟩ := hX.shape
  obtain ⟨aY, cY, rfl⟩ := hY.shape
  have hat : ∀ i j : Nat, i < R → j < C → ∀ w', FS w' (.slice aA T.length cA) T → Calls Try.prog 72 #[.agg #[.int .i64 R, .int .i64 C, .slice aA T.length cA], .int .i64 i, .int .i64 j] w' (fun e w2 => ∃ b, e = .returned (.float .f64 b) ∧ IsF b (M i j) ∧ ∃ o n, w2 = ext w' o n) := fun i j hi hj w' h => by
    have := rat_any R C i j (.slice aA T.length cA) T w' h hR hC (by omega) (by omega) (by rw [hT]; exact at_lt hi hj)
    rw [hM.get i j hi hj] at this; exact this
  have hcp : ∀ w', FS w' (.slice aA T.length cA) T → Calls Try.prog 140 #[.agg #[.int .i64 R, .int .i64 C, .slice aA T.length cA]] w' (fun e w2 => ∃ v, e = .returned (.agg #[.int .i64 R, .int .i64 C, v]) ∧ WS w2 w'.heap.size v T ∧ ∃ o n, w2 = ext w' o n) := fun w' h => mcopy_any R C _ T w' h (by omega)
  clear hT hx hy
  go_enter Try.func60, Try.ntmps60
  refine seq_stop ?_
  go_wp2
  refine stop_go (fun W hW => ?_)
  have s1 : w.heap.size < W.heap.size := by rw [hW]; simp only [World.size_alloc]; omega
  have b1 : ∀ i, W.cell? ⟨w.heap.size, i, none⟩ = (#[.int .i64 R, .int .i64 C, .slice aA T.length cA] : Array Value)[i]? := by intro i; rw [hW]; go_simp
  have f1 : ∀ i, W.frozen? ⟨w.heap.size, i, none⟩ = false := by intro i; rw [hW]; go_simp
  have s2 : w.heap.size + 1 < W.heap.size := by rw [hW]; simp only [World.size_alloc]; omega
  have b2 : ∀ i, W.cell? ⟨w.heap.size + 1, i, none⟩ = (#[.int .i64 0, .int .i64 0, .slice none 0 0] : Array Value)[i]? := by intro i; rw [hW]; go_simp
  have f2 : ∀ i, W.frozen? ⟨w.heap.size + 1, i, none⟩ = false := by intro i; rw [hW]; go_simp
  have g0 : Grew w W := by rw [hW]; exact ((Grew.refl _).alloc _).alloc _
  clear hW
  have hAW := hA.grew g0
  have hXW := hX.grew g0
  have hYW := hY.grew g0
  go_wp2_with (first | (go_at_call 140; ((with_reducible refine (hcp _ hAW).mono ?_); rintro e w1 ⟨v, rfl, ⟨g, cap, rfl, hg, hF, hgl⟩, oc, nc, rfl⟩)))
  refine name_any (fun V hV => ?_)
  have gV : Grew W V := by rw [← hV]; (show Grew _ _; repeat (first | (with_reducible exact Grew.refl _) | (with_reducible assumption) | (with_reducible refine Grew.ext ?_ _ _) | (with_reducible refine Grew.alloc ?_ _) | ((with_reducible refine Grew.setCell ?_ ?_ _); rotate_left; (focus (dsimp only; first | omega | (simp only [size_ext, World.size_alloc, Array.size_append]; omega)))) | (with_reducible refine Grew.drewN ?_ _) | (with_reducible refine Grew.drew ?_)))
  have zw := g0.below.size
  have zV := gV.below.size
  have hFV : FW V g T := by rw [← hV]; (repeat (first | (with_reducible assumption) | ((with_reducible refine FW.ext_set ?_ ?_ ?_ _); rotate_left; (focus (simp only [size_setCell', World.size_alloc, size_ext, size_upd]; omega)); (focus (dsimp only; omega))) | ((with_reducible refine FW.setCell_ne ?_ ?_ _); rotate_left; (focus (dsimp only; omega))) | (with_reducible refine FW.ext ?_ _ _) | (with_reducible refine FW.alloc ?_ _)))
  have cT : ∀ i, V.cell? ⟨W.heap.size + oc.size, i, none⟩ = (#[.int .i64 R, .int .i64 C, .slice (some ⟨g, 0, none⟩) T.length cap] : Array Value)[i]? := by subst hV; intro i; go_simp
  have kT : W.heap.size + oc.size < V.heap.size := by rw [← hV]; simp only [World.size_alloc, size_ext]; omega
  have ngT : W.heap.size + oc.size ≠ g := by have := hF.lt; simp only [size_ext] at this; omega
  obtain ⟨U, hU⟩ : ∃ U, W.heap.size + oc.size = U := ⟨_, rfl⟩
  have zU : W.heap.size ≤ U := by omega
  rw [hU] at cT kT ngT
  simp only [hU]
  have hG : ∀ k ∈ [g], W.heap.size ≤ k := by intro k hk; simp at hk; omega
  have hDu := But.fs gV hAW hG
  have hXu := But.fs gV hXW hG
  have hYu := But.fs gV hYW hG
  have c1 := But.boxW gV s1 b1 hG
  have c2 := But.boxW gV s2 b2 hG
  have z2 : ∀ w', But V [g] w' → ∀ i, w'.frozen? ⟨w.heap.size + 1, i, none⟩ = false := fun w' hb i => by
    have h1 := hb.block (w.heap.size + 1) (by omega) (by simp; omega)
    have h2 := (gV.frozen s2).trans (f2 i)
    unfold World.frozen? at h2 ⊢; simp only [h1] at h2 ⊢; exact h2
  have cU : ∀ w', But V [g] w' → ∀ i, w'.cell? ⟨U, i, none⟩ = (#[.int .i64 R, .int .i64 C, .slice (some ⟨g, 0, none⟩) T.length cap] : Array Value)[i]? := fun w' h i => (h.cell kT (by simpa using ngT)).trans (cT i)
  have kV : w.heap.size < V.heap.size := by omega
  have kV2 : w.heap.size + 1 < V.heap.size := by omega
  clear hV hU cT b1 b2 f1 f2 hF hcp
  go_loopw [10] (fun c wr => ∃ (i : Nat) (L : List Nat), i ≤ R ∧ c = .int .i64 i ∧ But V [g] wr ∧ FW wr g L ∧ Hold (fun i j => i * C + j) R C T L (stepR (rgerF α lx ly M) M i 0)) (fun c _ => R - (intOf c).toNat)
  case atStart => exact ⟨0, T, Nat.zero_le _, rfl, But.refl _ _, hFV, hM.congr fun i j _ _ => by simp [stepR]⟩
  case round =>
    obtain ⟨i, L, hi, rfl, hB, hL, hH⟩ := hrel
    have t1 := c1 _ hB
    have sB := hB.size
    have x1 : w.heap.size < wr.heap.size := by omega
    by_cases hlt : (i : Int) < R
    · have hiR : i < R := by omega
      go_wp2
      go_loopw [11] (fun c wr => ∃ (j : Nat) (L : List Nat), j ≤ C ∧ c = .int .i64 j ∧ But V [g] wr ∧ FW wr g L ∧ Hold (fun i j => i * C + j) R C T L (stepR (rgerF α lx ly M) M i j)) (fun c _ => C - (intOf c).toNat)
      case atStart => exact ⟨0, L, Nat.zero_le _, rfl, hB, hL, hH⟩
      case round =>
        obtain ⟨j, L2, hj, rfl, hB2, hL2, hH2⟩ := hrel
        have t1 := c1 _ hB2
        have tU := cU _ hB2
        have sB := hB2.size
        have x1 : w.heap.size < wr.heap.size := by omega
        have xU : U < wr.heap.size := by omega
        by_cases hl2 : (j : Int) < C
        · have hjC : j < C := by omega
          have hatij := hat i j hiR hjC
          have hgd := hH2.get i j hiR hjC
          have hset : ∀ w' r z, FW w' g L2 → IsF r z → Calls Try.prog 134 #[.agg #[.int .i64 R, .int .i64 C, .slice (some ⟨g, 0, none⟩) T.length cap], .int .i64 i, .int .i64 j, .float .f64 r] w' (fun e w2 => e = .returned (.tuple #[]) ∧ Wrote w' w2 g (L2.set (i * C + j) z)) := fun w' r z h1 h2 =>
            rset_any R C i j g cap T.length r z L2 w' h1 h2 hH2.len.symm hR hC (by omega) (by omega) (by rw [hH2.len, HT.out]; exact at_lt hiR hjC)
          obtain ⟨bx, ox, hax, hkx, hcx⟩ := hXW.at.2 (by rw [Hx.out]; omega)
          obtain ⟨rx, hrx, hfx⟩ := hcx i (by rw [Hx.out]; omega)
          obtain ⟨bz, oz, haz, hkz, hcz⟩ := hYW.at.2 (by rw [Hy.out]; omega)
          obtain ⟨ry, hry, hfy⟩ := hcz j (by rw [Hy.out]; omega)
          subst hax haz
          have lx1 : (i : Int) < lx.length := by rw [Hx.out]; omega
          have ly1 : (j : Int) < ly.length := by rw [Hy.out]; omega
          have crx : ∀ w', But V [g] w' → w'.cell? ⟨bx, ox + i, none⟩ = some (.float .f64 rx) := fun w' h => (h.cell (by omega) (by simp; omega)).trans ((gV.cell hkx).trans hrx)
          have cry : ∀ w', But V [g] w' → w'.cell? ⟨bz, oz + j, none⟩ = some (.float .f64 ry) := fun w' h => (h.cell (by omega) (by simp; omega)).trans ((gV.cell hkz).trans hry)
          clear hcx hcz hrx hry
          go_wp2
          refine wp_region_R (But V [g]) [] [(0,0), (0,1), (0,2), (0,3), (0,4), (0,5), (0,7), (0,8), (0,9), (0,10), (0,11), (0,13), (0,14), (0,15), (0,16), (1,6), (1,12), (1,17), (1,18), (1,19)] (by kernel_rfl) (by kernel_rfl) (fun _ _ _ _ h _ => h) (hB2.grew ((Grew.refl _).drew)) ?_
          refine name_any (fun V6 hV6 => ?_)
          have hg6 : Grew wr V6 := by rw [← hV6]; (show Grew _ _; repeat (first | (with_reducible exact Grew.refl _) | (with_reducible assumption) | (with_reducible refine Grew.ext ?_ _ _) | (with_reducible refine Grew.alloc ?_ _) | ((with_reducible refine Grew.setCell ?_ ?_ _); rotate_left; (focus (dsimp only; first | omega | (simp only [size_ext, World.size_alloc, Array.size_append]; omega)))) | (with_reducible refine Grew.drewN ?_ _) | (with_reducible refine Grew.drew ?_)))
          have B6 := hB2.grew hg6
          have F6 := hL2.grew hg6
          clear hV6 hg6
          go_wp2_with (first | ((with_reducible refine wpR_id ?_); first | (refine wpR_take (v := ?_) rfl rfl ?_ ?_; rotate_left; (focus (intro w' hw'; go_simp; try with_reducible rfl)); simp only [Act.put, List.setIfInBounds_toArray, List.set_cons_zero, List.set_cons_succ]) | (refine wpR_pure (v := ?_) rfl rfl ?_ ?_; rotate_left; (focus (intro w'; go_simp; try with_reducible rfl)); simp only [Act.put, List.setIfInBounds_toArray, List.set_cons_zero, List.set_cons_succ]) | (refine wpR_takeG (v := ?_) rfl rfl rfl rfl rfl ?_ ?_; rotate_left; (focus (intro w' hw'; go_simp; try with_reducible rfl)); simp only [Act.put, List.setIfInBounds_toArray, List.set_cons_zero, List.set_cons_succ]) | (refine wpR_skip rfl rfl rfl rfl rfl rfl ?_; simp only [Act.put, List.setIfInBounds_toArray, List.set_cons_zero, List.set_cons_succ]) | (refine wpR_skipU rfl rfl rfl rfl rfl ?_; simp only [Act.put, List.setIfInBounds_toArray, List.set_cons_zero, List.set_cons_succ]) | (refine wpR_do rfl rfl (fun K hK => ?_)) | (refine wpR_doG rfl rfl rfl rfl rfl (fun K hK => ?_)) | (refine wpR_last rfl rfl (fun K hK => ?_)) | (refine wpR_nil ?_)) | ((with_reducible refine wpR_go ?_ ?_); (focus (with_reducible assumption))) | ((with_reducible refine upon_id ?_); refine upon_fop rfl (by assumption) (by assumption) ?_; intro rr nn hr) | (go_at_call 72; ((with_reducible refine (hatij _ (hDu _ (by assumption))).mono ?_); rintro e w1 ⟨r1, rfl, hr1, hw1⟩; (have B7 := B6.grew hw1; have F7 := F6.grew hw1))) | (go_at_call 141; ((with_reducible refine (times_any a ry α _ _ ha hfy).mono ?_); rintro e w1 ⟨r2, rfl, hr2, hw2⟩; (have B8 := B7.grew hw2; have F8 := F7.grew hw2))) | (go_at_call 141; ((with_reducible refine (times_any r2 rx _ _ _ hr2 hfx).mono ?_); rintro e w1 ⟨r3, rfl, hr3, hw3⟩; (have B9 := B8.grew hw3; have F9 := F8.grew hw3))) | (go_at_call 36; ((with_reducible refine (plus_any r1 r3 _ _ _ hr1 hr3).mono ?_); rintro e w1 ⟨r4, rfl, hr4, hw4⟩; (have B10 := B9.grew hw4; have F10 := F9.grew hw4))) | (go_at_call 134; ((with_reducible refine (hset _ r4 _ F10 hr4).mono ?_); rintro e w1 ⟨rfl, hw5⟩; (have B11 := B10.wrote hw5 (.inl (by simp))))))
          go_roundw
          case rel =>
            refine ⟨j + 1, _, by omega, by go_num, B11, hw5.fw F10, (hH2.set hpl hiR hjC).congr fun r c hr hc => ?_⟩
            unfold stepR
            by_cases hrc : r = i ∧ c = j
            · obtain ⟨rfl, rfl⟩ := hrc
              simp [rgerF]
            · rw [if_neg hrc]
              by_cases h2 : r < i ∨ (r = i ∧ c < j)
              · rw [if_pos h2, if_pos (by omega)]
              · rw [if_neg h2, if_neg (by omega)]
          case measure => simp [intOf]; omega
        · have e : j = C := by omega
          go_wp2
          go_roundw
          case rel =>
            refine ⟨i + 1, L2, by omega, by go_num, hB2, hL2, hH2.congr fun r c hr hc => ?_⟩
            unfold stepR
            by_cases h2 : r < i ∨ (r = i ∧ c < j)
            · rw [if_pos h2, if_pos (by omega)]
            · rw [if_neg h2, if_neg (by omega)]
          case measure => simp [intOf]; omega
    · have e : i = R := by omega
      have t2 := c2 _ hB
      have tU := cU _ hB
      have zz := z2 _ hB
      have x2 : w.heap.size + 1 < wr.heap.size := by omega
      have xU : U < wr.heap.size := by omega
      go_wp2
      refine bodyPost_ret (v := .agg #[.int .i64 R, .int .i64 C, .slice (some ⟨g, 0, none⟩) T.length cap]) (by simp [results, Try.results60, go_sem, *]) rfl ?_
      have gwr : Grew w wr := g0.trans (hB.grew0 gV hG)
      have hlL : L.length = T.length := hH.len
      refine ⟨_, rfl, L, ⟨g, cap, by rw [hlL], by omega, by (repeat (first | (with_reducible assumption) | ((with_reducible refine FW.ext_set ?_ ?_ ?_ _); rotate_left; (focus (simp only [size_setCell', World.size_alloc, size_ext, size_upd]; omega)); (focus (dsimp only; omega))) | ((with_reducible refine FW.setCell_ne ?_ ?_ _); rotate_left; (focus (dsimp only; omega))) | (with_reducible refine FW.ext ?_ _ _) | (with_reducible refine FW.alloc ?_ _))), by rw [hlL]; omega⟩, hH.congr fun r c hr hc => ?_, by (show Grew _ _; repeat (first | (with_reducible exact Grew.refl _) | (with_reducible assumption) | (with_reducible refine Grew.ext ?_ _ _) | (with_reducible refine Grew.alloc ?_ _) | ((with_reducible refine Grew.setCell ?_ ?_ _); rotate_left; (focus (dsimp only; first | omega | (simp only [size_ext, World.size_alloc, Array.size_append]; omega)))) | (with_reducible refine Grew.drewN ?_ _) | (with_reducible refine Grew.drew ?_)))⟩
      unfold stepR
      rw [if_pos (by omega)]
end Go.Proofs.Ytcmggfpcbijcjaa
end
section
/-
  Contracts: resid.Berr.
-/
set_option linter.unusedSimpArgs false
set_option linter.unusedVariables false
open Go Go.RowKit Sedge
namespace Go.Proofs.Ytcmggfpcbijcjaa
theorem FS_one {w : World} {t : TypeId} {r y : Nat} (hr : IsF r y) (n : Nat) (hn : n = w.heap.size) : FS (w.alloc (.cells #[.float .f64 r] t)) (.slice (some ⟨n, 0, none⟩) 1 1) [y] := by
  subst hn
  refine ⟨by simp, _, 1, rfl, (fun h => by cases h), fun i hi => ⟨_, _, r, rfl, ?_, ?_⟩⟩
  · have : i = 0 := by simp at hi; exact hi
    subst this
    rw [World.cell?_alloc_new]; rfl
  · have : i = 0 := by simp at hi; exact hi
    subst this
    exact hr
theorem shapeN {w : World} {v : Value} {ws : List Nat} {N : Nat} (h : FS w v ws) (hl : ws.length = N) : ∃ a c, v = .slice a N c := by
  obtain ⟨a, c, rfl⟩ := h.shape
  exact ⟨a, c, by rw [hl]⟩
/-- The numbers whose greatest is the backward error. -/
def blTo (m : MatM) (X Y F R : List Nat) : Nat → List Nat
  | 0 => []
  | i + 1 => blTo m X Y F R i ++ (if nzB (R.getD i 0) = true then [ratF (F.getD i 0) (R.getD i 0)] else if someB m X Y i = true then [4607182418800017408] else [])
theorem blTo_le (m : MatM) (X Y F R : List Nat) : ∀ i, (blTo m X Y F R i).length ≤ i
  | 0 => Nat.le_refl _
  | i + 1 => by
    have := blTo_le m X Y F R i
    unfold blTo
    rw [List.length_append]
    split
    · simp; omega
    · split <;> simp <;> omega
def berF (m : MatM) (X Y : List Nat) : Nat := fgreatest (blTo m X Y (bndL (resL m X Y) (rebL m X Y)) (rebL m X Y) m.rows.toNat)
set_option maxRecDepth 100000 in
set_option maxHeartbeats 1000000 in
/-- resid.Berr that tells an error. -/
theorem berr_no (m : MatM) (D VX VY : Value) (X Y : List Nat) (w : World) (hD : FS w D m.ws) (hX : FS w VX X) (hY : FS w VY Y) (hwf : m.wf) (hne : chkE m X.length Y.length ≠ 0) :
   Calls Try.prog 105 #[.agg #[D, .int .i64 m.off, .int .i64 m.rows, .int .i64 m.cols, .int .i64 m.ld], VX, VY] w (fun e w' => e = .returned (.tuple #[.float .f64 0, .int .i64 (chkE m X.length Y.length)]) ∧ ∃ o n, w' = ext w o n) := by
  have hr : ∀ w', FS w' D m.ws → FS w' VX X → FS w' VY Y → Calls Try.prog 94 #[.agg #[D, .int .i64 m.off, .int .i64 m.rows, .int .i64 m.cols, .int .i64 m.ld], VX, VY] w' (fun e w2 => e = .returned (.tuple #[.slice none 0 0, .slice none 0 0, .int .i64 (chkE m X.length Y.length)]) ∧ ∃ o n, w2 = ext w' o n) := fun w' h1 h2 h3 => rest_no m D VX VY X Y w' h1 h2 h3 hwf hne
  obtain ⟨E, hE⟩ : ∃ E, E = chkE m X.length Y.length := ⟨_, rfl⟩
  rw [← hE] at hr hne ⊢
  have d1 : (E != 0) = true := by simpa using hne
  clear hE hne hwf
  go_enter Try.func105, Try.ntmps105
  refine seq_stop ?_
  go_wp2
  refine stop_go (fun W hW => ?_)
  have s1 : w.heap.size < W.heap.size := by rw [hW]; simp only [World.size_alloc]; omega
  have b1 : ∀ i, W.cell? ⟨w.heap.size, i, none⟩ = (#[D, .int .i64 m.off, .int .i64 m.rows, .int .i64 m.cols, .int .i64 m.ld] : Array Value)[i]? := by intro i; rw [hW]; go_simp
  have g0 : Grew w W := by rw [hW]; exact (Grew.refl _).alloc _
  clear hW
  have hDW := hD.grew g0
  have hXW := hX.grew g0
  have hYW := hY.grew g0
  go_wp2_with (first | (go_at_call 94; ((with_reducible refine (hr _ ?_ ?_ ?_).mono ?_); (focus (first | (with_reducible assumption) | (with_reducible refine FS.ext ?_ _ _; with_reducible assumption) | (with_reducible refine IS.ext ?_ _ _; with_reducible assumption) | (refine hDu _ ?_; with_reducible assumption) | (refine hOu _ ?_; with_reducible assumption) | (refine hDa _ ?_; with_reducible assumption) | (refine hDb _ ?_; with_reducible assumption) | (refine hDc _ ?_; with_reducible assumption) | (refine hDd _ ?_; with_reducible assumption) | (refine FW.fs ?_ (by omega) _; with_reducible assumption) | (refine WS.fs ?_; with_reducible assumption) | (refine FW.fs ?_ (by omega) _; assumption) | omega | assumption)); (focus (first | (with_reducible assumption) | (with_reducible refine FS.ext ?_ _ _; with_reducible assumption) | (with_reducible refine IS.ext ?_ _ _; with_reducible assumption) | (refine hDu _ ?_; with_reducible assumption) | (refine hOu _ ?_; with_reducible assumption) | (refine hDa _ ?_; with_reducible assumption) | (refine hDb _ ?_; with_reducible assumption) | (refine hDc _ ?_; with_reducible assumption) | (refine hDd _ ?_; with_reducible assumption) | (refine FW.fs ?_ (by omega) _; with_reducible assumption) | (refine WS.fs ?_; with_reducible assumption) | (refine FW.fs ?_ (by omega) _; assumption) | omega | assumption)); (focus (first | (with_reducible assumption) | (with_reducible refine FS.ext ?_ _ _; with_reducible assumption) | (with_reducible refine IS.ext ?_ _ _; with_reducible assumption) | (refine hDu _ ?_; with_reducible assumption) | (refine hOu _ ?_; with_reducible assumption) | (refine hDa _ ?_; with_reducible assumption) | (refine hDb _ ?_; with_reducible assumption) | (refine hDc _ ?_; with_reducible assumption) | (refine hDd _ ?_; with_reducible assumption) | (refine FW.fs ?_ (by omega) _; with_reducible assumption) | (refine WS.fs ?_; with_reducible assumption) | (refine FW.fs ?_ (by omega) _; assumption) | omega | assumption)); rintro e w1 ⟨rfl, o1, n1, rfl⟩)))
  refine bodyPost_ret (v := .tuple #[.float .f64 0, .int .i64 E]) (by simp [results, Try.results105, go_sem, *]) rfl ?_
  exact ⟨rfl, by (show Grew _ _; repeat (first | (with_reducible exact Grew.refl _) | (with_reducible assumption) | (with_reducible exact Grew.same_o) | (with_reducible exact Grew.app_o) | (with_reducible refine Grew.ext ?_ _ _) | (with_reducible refine Grew.alloc ?_ _) | ((with_reducible refine Grew.setCell ?_ ?_ _); rotate_left; (focus (dsimp only; first | omega | (simp only [size_ext, World.size_alloc, Array.size_append]; omega)))) | (with_reducible refine Grew.drewN ?_ _) | (with_reducible refine Grew.drew ?_)))⟩
set_option maxRecDepth 100000 in
set_option maxHeartbeats 2000000 in
/-- resid.Berr. -/
theorem berr_any (m : MatM) (D VX VY : Value) (X Y : List Nat) (w : World) (hD : FS w D m.ws) (hX : FS w VX X) (hY : FS w VY Y) (hm : m.good = true) (hwf : m.wf) (hl : m.ws.length ≤ 1000000) (hrc : m.rows = m.cols) (hr : m.rows ≤ 64) (hnX : (X.length : Int) = m.rows) (hnY : (Y.length : Int) = m.rows) :
   Calls Try.prog 105 #[.agg #[D, .int .i64 m.off, .int .i64 m.rows, .int .i64 m.cols, .int .i64 m.ld], VX, VY] w (fun e w' => ∃ q, e = .returned (.tuple #[.float .f64 q, .int .i64 0]) ∧ IsF q (berF m X Y) ∧ ∃ o n, w' = ext w o n) := by
  have hn := MatM.good_n hm
  obtain ⟨R, hR⟩ : ∃ R, Hid (R = rebL m X Y) := ⟨_, hid rfl⟩
  obtain ⟨F, hF⟩ : ∃ F, Hid (F = bndL (resL m X Y) R) := ⟨_, hid rfl⟩
  obtain ⟨N, hN⟩ : ∃ N, N = m.rows.toNat := ⟨_, rfl⟩
  have lR : R.length = N := by rw [hR.out, hN]; exact rowsTo_length _ _ _ _ _
  have lS : (resL m X Y).length = N := by rw [hN]; exact rowsTo_length _ _ _ _ _
  have lF : F.length = N := by rw [hF.out, bndL_length, lS]
  have hRest : ∀ w', FS w' D m.ws → FS w' VX X → FS w' VY Y → Calls Try.prog 94 #[.agg #[D, .int .i64 m.off, .int .i64 m.rows, .int .i64 m.cols, .int .i64 m.ld], VX, VY] w' (fun e w2 => ∃ v1 v2, e = .returned (.tuple #[v1, v2, .int .i64 0]) ∧ FS w2 v1 (resL m X Y) ∧ FS w2 v2 R ∧ ∃ o n, w2 = ext w' o n) := fun w' h1 h2 h3 => by
    refine (rest_any m D VX VY X Y w' h1 h2 h3 hm hwf hl hrc hr hnX hnY).mono fun e w2 hh => ?_
    obtain ⟨v1, v2, e1, e2, e3, e4⟩ := hh
    refine ⟨v1, v2, e1, e2.fs (by rw [lS]; omega), ?_, e4⟩
    rw [hR.out]
    exact e3.fs (by rw [← hR.out, lR]; omega)
  have hBnd : ∀ v1 v2 w', FS w' v1 (resL m X Y) → FS w' v2 R → Calls Try.prog 92 #[v1, v2] w' (fun e w2 => ∃ v3, e = .returned (.tuple #[v3, .int .i64 0]) ∧ FS w2 v3 F ∧ ∃ o n, w2 = ext w' o n) := fun v1 v2 w' h1 h2 => by
    refine (bounds_any v1 v2 _ _ w' h1 h2 (by rw [lS]; omega) (by rw [lR, lS])).mono fun e w2 hh => ?_
    obtain ⟨v3, e1, e2, e3⟩ := hh
    refine ⟨v3, e1, ?_, e3⟩
    rw [hF.out]
    exact e2.fs (by rw [← hF.out, lF]; omega)
  have hNo : ∀ (i : Nat) w', i < N → FS w' D m.ws → FS w' VX X → FS w' VY Y → Calls Try.prog 182 #[.agg #[D, .int .i64 m.off, .int .i64 m.rows, .int .i64 m.cols, .int .i64 m.ld], VX, VY, .int .i64 i] w' (fun e w2 => e = .returned (.bool (!(someB m X Y i))) ∧ ∃ o n, w2 = ext w' o n) := fun i w' hi h1 h2 h3 =>
    nothing_any m D VX VY X Y i w' h1 h2 h3 hm hwf hl (by omega) (by omega) (by omega) (by omega)
  have hq : berF m X Y = fgreatest (blTo m X Y F R N) := by unfold berF; rw [← hR.out, ← hF.out, hN]
  have HQ := hid hq
  have hN64 : N ≤ 64 := by omega
  have H1 := hid isF_one
  clear hm hwf hrc hr hnX hnY hn hN hq lS
  go_enter Try.func105, Try.ntmps105
  refine seq_stop ?_
  go_wp2
  refine stop_go (fun W hW => ?_)
  have s1 : w.heap.size < W.heap.size := by rw [hW]; simp only [World.size_alloc]; omega
  have b1 : ∀ i, W.cell? ⟨w.heap.size, i, none⟩ = (#[D, .int .i64 m.off, .int .i64 m.rows, .int .i64 m.cols, .int .i64 m.ld] : Array Value)[i]? := by intro i; rw [hW]; go_simp
  have g0 : Grew w W := by rw [hW]; exact (Grew.refl _).alloc _
  clear hW
  have hDW := hD.grew g0
  have hXW := hX.grew g0
  have hYW := hY.grew g0
  go_wp2_with (first | (go_at_call 94; ((with_reducible refine (hRest _ ?_ ?_ ?_).mono ?_); (focus (first | (with_reducible assumption) | (with_reducible refine FS.ext ?_ _ _; with_reducible assumption) | (with_reducible refine IS.ext ?_ _ _; with_reducible assumption) | (refine hDu _ ?_; with_reducible assumption) | (refine hOu _ ?_; with_reducible assumption) | (refine hDa _ ?_; with_reducible assumption) | (refine hDb _ ?_; with_reducible assumption) | (refine hDc _ ?_; with_reducible assumption) | (refine hDd _ ?_; with_reducible assumption) | (refine FW.fs ?_ (by omega) _; with_reducible assumption) | (refine WS.fs ?_; with_reducible assumption) | (refine FW.fs ?_ (by omega) _; assumption) | omega | assumption)); (focus (first | (with_reducible assumption) | (with_reducible refine FS.ext ?_ _ _; with_reducible assumption) | (with_reducible refine IS.ext ?_ _ _; with_reducible assumption) | (refine hDu _ ?_; with_reducible assumption) | (refine hOu _ ?_; with_reducible assumption) | (refine hDa _ ?_; with_reducible assumption) | (refine hDb _ ?_; with_reducible assumption) | (refine hDc _ ?_; with_reducible assumption) | (refine hDd _ ?_; with_reducible assumption) | (refine FW.fs ?_ (by omega) _; with_reducible assumption) | (refine WS.fs ?_; with_reducible assumption) | (refine FW.fs ?_ (by omega) _; assumption) | omega | assumption)); (focus (first | (with_reducible assumption) | (with_reducible refine FS.ext ?_ _ _; with_reducible assumption) | (with_reducible refine IS.ext ?_ _ _; with_reducible assumption) | (refine hDu _ ?_; with_reducible assumption) | (refine hOu _ ?_; with_reducible assumption) | (refine hDa _ ?_; with_reducible assumption) | (refine hDb _ ?_; with_reducible assumption) | (refine hDc _ ?_; with_reducible assumption) | (refine hDd _ ?_; with_reducible assumption) | (refine FW.fs ?_ (by omega) _; with_reducible assumption) | (refine WS.fs ?_; with_reducible assumption) | (refine FW.fs ?_ (by omega) _; assumption) | omega | assumption)); rintro e w1 ⟨v1, v2, rfl, hv1, hv2, o1, n1, rfl⟩; obtain ⟨a2, c2, rfl⟩ := shapeN hv2 lR)) | (go_at_call 92; ((with_reducible refine (hBnd v1 _ _ hv1 hv2).mono ?_); rintro e w1 ⟨v3, rfl, hv3, o2, n2, rfl⟩; obtain ⟨a3, c3, rfl⟩ := shapeN hv3 lF)))
  refine name_any (fun V hV => ?_)
  simp only [ext_ext] at hv3
  have gV : Grew W V := by rw [← hV]; (show Grew _ _; repeat (first | (with_reducible exact Grew.refl _) | (with_reducible assumption) | (with_reducible exact Grew.same_o) | (with_reducible exact Grew.app_o) | (with_reducible refine Grew.ext ?_ _ _) | (with_reducible refine Grew.alloc ?_ _) | ((with_reducible refine Grew.setCell ?_ ?_ _); rotate_left; (focus (dsimp only; first | omega | (simp only [size_ext, World.size_alloc, Array.size_append]; omega)))) | (with_reducible refine Grew.drewN ?_ _) | (with_reducible refine Grew.drew ?_)))
  rw [hV] at hv3
  have hv2' : FS V _ R := hv2.grew (by rw [← hV]; (show Grew _ _; (try simp only [← Array.append_assoc]); repeat (first | (with_reducible exact Grew.same_o) | (with_reducible exact Grew.refl _) | (with_reducible assumption) | (with_reducible refine Grew.alloc ?_ _) | (with_reducible refine Grew.app_r ?_) | ((with_reducible refine Grew.setCell ?_ ?_ _); rotate_left; (focus (dsimp only; first | omega | (simp only [size_ext, World.size_alloc, Array.size_append]; omega)))) | (with_reducible refine Grew.ext ?_ _ _) | (with_reducible refine Grew.drewN ?_ _) | (with_reducible refine Grew.drew ?_))))
  have c3 : ∀ i, V.cell? ⟨w.heap.size, i, none⟩ = (#[D, .int .i64 m.off, .int .i64 m.rows, .int .i64 m.cols, .int .i64 m.ld] : Array Value)[i]? := fun i => (gV.cell s1).trans (b1 i)
  have z3 : w.heap.size < V.heap.size := Nat.lt_of_lt_of_le s1 gV.below.size
  have gw : Grew w V := Grew.trans g0 gV
  have hNo2 : ∀ (i : Nat) w', i < N → Grew V w' → Calls Try.prog 182 #[.agg #[D, .int .i64 m.off, .int .i64 m.rows, .int .i64 m.cols, .int .i64 m.ld], VX, VY, .int .i64 i] w' (fun e w2 => e = .returned (.bool (!(someB m X Y i))) ∧ ∃ o n, w2 = ext w' o n) := fun i w' hi g => hNo i w' hi ((hDW.grew gV).grew g) ((hXW.grew gV).grew g) ((hYW.grew gV).grew g)
  have HLR := hid lR
  have HLF := hid lF
  clear hV hv1 hv2 hRest hBnd hNo gV b1 s1 hDW hXW hYW lR lF
  go_loopw [13, 34] (fun v c wx => ∃ (i : Nat) (o : Array Obj) (k : Nat), i ≤ N ∧ c = .int .i64 i ∧ wx = ext V o k ∧ OwnF 22 wx V.heap.size v (blTo m X Y F R i)) (fun _ c _ => N - (intOf c).toNat)
  case atStart => exact ⟨0, _, _, Nat.zero_le _, rfl, ext_zero.symm, OwnF.nil _ _ _⟩
  case round =>
    obtain ⟨i, o3, n3, hi, rfl, hwr, hown⟩ := hrel
    have gx : Grew V wr := ⟨_, _, hwr⟩
    clear hwr
    have hll := blTo_le m X Y F R i
    have c3' : ∀ i, wr.cell? ⟨w.heap.size, i, none⟩ = (#[D, .int .i64 m.off, .int .i64 m.rows, .int .i64 m.cols, .int .i64 m.ld] : Array Value)[i]? := fun i => (gx.cell z3).trans (c3 i)
    have z3' : w.heap.size < wr.heap.size := Nat.lt_of_lt_of_le z3 gx.below.size
    by_cases hlt : i < N
    · obtain ⟨blk, so, ex, hblkV, hcl⟩ := hv3.at.2 (by rw [HLF.out]; omega)
      subst ex
      obtain ⟨bf, hbfV, hff⟩ := hcl i (by rw [HLF.out]; exact hlt)
      obtain ⟨blk2, so2, ex, hblk2V, hcl2⟩ := hv2'.at.2 (by rw [HLR.out]; omega)
      subst ex
      obtain ⟨br, hbrV, hfr⟩ := hcl2 i (by rw [HLR.out]; exact hlt)
      have hbf := (gx.cell hblkV).trans hbfV
      have hbr := (gx.cell hblk2V).trans hbrV
      have hblk := Nat.lt_of_lt_of_le hblkV gx.below.size
      have hblk2 := Nat.lt_of_lt_of_le hblk2V gx.below.size
      have hsucc : blTo m X Y F R (i + 1) = blTo m X Y F R i ++ (if nzB (R.getD i 0) = true then [ratF (F.getD i 0) (R.getD i 0)] else if someB m X Y i = true then [4607182418800017408] else []) := rfl
      obtain ⟨L, hL⟩ : ∃ L, L = blTo m X Y F R i := ⟨_, rfl⟩
      rw [← hL] at hown hll hsucc
      have HL := hid hL
      have hno := hNo2 i
      clear hcl hcl2 hL
      cases hnz : nzB (R.getD i 0)
      · rw [hnz] at hsucc
        have e1 := nz_ne hfr hnz
        have e2 := nz_eq hfr hnz
        simp only [Bool.not_false] at e2
        cases hsm : someB m X Y i
        · rw [hsm] at hsucc hno
          have HS := hid hsucc
          clear hsucc hnz hsm
          go_wp2_with (first | (go_at_call 182; ((with_reducible refine (hno _ hlt (Grew.trans gx (by (show Grew _ _; repeat (first | (with_reducible exact Grew.refl _) | (with_reducible assumption) | (with_reducible exact Grew.same_o) | (with_reducible exact Grew.app_o) | (with_reducible refine Grew.ext ?_ _ _) | (with_reducible refine Grew.alloc ?_ _) | ((with_reducible refine Grew.setCell ?_ ?_ _); rotate_left; (focus (dsimp only; first | omega | (simp only [size_ext, World.size_alloc, Array.size_append]; omega)))) | (with_reducible refine Grew.drewN ?_ _) | (with_reducible refine Grew.drew ?_)))))).mono ?_); rintro e w1 ⟨rfl, o5, n5, rfl⟩)))
          go_roundw
          case rel =>
            obtain ⟨oX, nX, hX⟩ := Grew.trans gx (⟨_, _, rfl⟩ : Grew wr (ext wr o5 n5))
            exact ⟨i + 1, oX, nX, hlt, by go_num, hX, by rw [HS.out]; simpa using hown.ext o5 n5⟩
          case measure => simp [intOf]; omega
        · rw [hsm] at hsucc hno
          have HS := hid hsucc
          clear hsucc hnz hsm
          go_wp2_with (first | (go_at_call 182; ((with_reducible refine (hno _ hlt (Grew.trans gx (by (show Grew _ _; repeat (first | (with_reducible exact Grew.refl _) | (with_reducible assumption) | (with_reducible exact Grew.same_o) | (with_reducible exact Grew.app_o) | (with_reducible refine Grew.ext ?_ _ _) | (with_reducible refine Grew.alloc ?_ _) | ((with_reducible refine Grew.setCell ?_ ?_ _); rotate_left; (focus (dsimp only; first | omega | (simp only [size_ext, World.size_alloc, Array.size_append]; omega)))) | (with_reducible refine Grew.drewN ?_ _) | (with_reducible refine Grew.drew ?_)))))).mono ?_); rintro e w1 ⟨rfl, o5, n5, rfl⟩)) | (at_builtin; refine append1_f (W := V) (v := u13) (xs := L) (y := 4607182418800017408) finfo ?_ ?_ ?_ ((by omega)) _ _ rfl rfl rfl ?_ rfl ?_; (focus (refine Grew.trans gx ?_; (show Grew _ _; repeat (first | (with_reducible exact Grew.refl _) | (with_reducible assumption) | (with_reducible exact Grew.same_o) | (with_reducible exact Grew.app_o) | (with_reducible refine Grew.ext ?_ _ _) | (with_reducible refine Grew.alloc ?_ _) | ((with_reducible refine Grew.setCell ?_ ?_ _); rotate_left; (focus (dsimp only; first | omega | (simp only [size_ext, World.size_alloc, Array.size_append]; omega)))) | (with_reducible refine Grew.drewN ?_ _) | (with_reducible refine Grew.drew ?_))))); (focus (refine OwnF.grew (w := wr) ?_ ?_; (focus (with_reducible assumption)); (focus (show Grew _ _; repeat (first | (with_reducible exact Grew.refl _) | (with_reducible assumption) | (with_reducible exact Grew.same_o) | (with_reducible exact Grew.app_o) | (with_reducible refine Grew.ext ?_ _ _) | (with_reducible refine Grew.alloc ?_ _) | ((with_reducible refine Grew.setCell ?_ ?_ _); rotate_left; (focus (dsimp only; first | omega | (simp only [size_ext, World.size_alloc, Array.size_append]; omega)))) | (with_reducible refine Grew.drewN ?_ _) | (with_reducible refine Grew.drew ?_)))))); (focus (exact H1.out)); (focus (first | rfl | (simp only [size_ext, World.size_alloc, Array.size_append]; done) | (simp only [size_ext, World.size_alloc, Array.size_append]; omega))); intro v oo nn ho hn))
          go_roundw
          case rel => exact ⟨i + 1, oo, nn, hlt, by go_num, rfl, by rw [HS.out]; simpa using ho⟩
          case measure => simp [intOf]; omega
      · rw [hnz] at hsucc
        have e1 := nz_ne hfr hnz
        have e2 := nz_eq hfr hnz
        simp only [Bool.not_true] at e2
        have HS := hid hsucc
        clear hsucc hnz
        go_wp2
        refine wp_region_R (Grew V) [] [(0,0), (0,1), (0,2), (0,3), (0,4), (0,5), (0,6), (0,7), (0,8), (1,9), (1,10), (1,11), (0,12)] (by kernel_rfl) (by kernel_rfl) (fun _ _ _ _ h _ => h) (by first | exact ⟨_, _, ext_drew⟩ | exact ⟨_, _, drew_ext0⟩ | (show Grew _ _; repeat (first | (with_reducible exact Grew.refl _) | (with_reducible assumption) | (with_reducible exact Grew.same_o) | (with_reducible exact Grew.app_o) | (with_reducible refine Grew.ext ?_ _ _) | (with_reducible refine Grew.alloc ?_ _) | ((with_reducible refine Grew.setCell ?_ ?_ _); rotate_left; (focus (dsimp only; first | omega | (simp only [size_ext, World.size_alloc, Array.size_append]; omega)))) | (with_reducible refine Grew.drewN ?_ _) | (with_reducible refine Grew.drew ?_)))) ?_
        go_wp2_with (first | ((with_reducible refine wpR_id ?_); refine wpR_do rfl rfl (fun K hK => ?_); (with_reducible refine wp_app ?_); refine appendN_K (W := V) (v := u13) (xs := L) (ws := [ratF (F.getD i 0) (R.getD i 0)]) finfo ?_ ?_ ?_ ((by simp; omega)) _ _ rfl rfl rfl rfl ?_; (focus (show Grew _ _; repeat (first | (with_reducible exact Grew.refl _) | (with_reducible assumption) | (with_reducible exact Grew.same_o) | (with_reducible exact Grew.app_o) | (with_reducible refine Grew.ext ?_ _ _) | (with_reducible refine Grew.alloc ?_ _) | ((with_reducible refine Grew.setCell ?_ ?_ _); rotate_left; (focus (dsimp only; first | omega | (simp only [size_ext, World.size_alloc, Array.size_append]; omega)))) | (with_reducible refine Grew.drewN ?_ _) | (with_reducible refine Grew.drew ?_)))); (focus (refine OwnF.grew (w := wr) ?_ ?_; (focus (with_reducible assumption)); (focus (show Grew _ _; repeat (first | (with_reducible exact Grew.refl _) | (with_reducible assumption) | (with_reducible exact Grew.same_o) | (with_reducible exact Grew.app_o) | (with_reducible refine Grew.ext ?_ _ _) | (with_reducible refine Grew.alloc ?_ _) | ((with_reducible refine Grew.setCell ?_ ?_ _); rotate_left; (focus (dsimp only; first | omega | (simp only [size_ext, World.size_alloc, Array.size_append]; omega)))) | (with_reducible refine Grew.drewN ?_ _) | (with_reducible refine Grew.drew ?_)))))); (focus (refine FS_one (y := ratF (F.getD i 0) (R.getD i 0)) ?_ _ ?_; (focus (exact hr)); (focus (first | rfl | (simp only [size_ext, World.size_alloc, Array.size_append]; done) | (simp only [size_ext, World.size_alloc, Array.size_append]; omega))))); intro v oo nn ho hn) | ((with_reducible refine wpR_id ?_); first | (refine wpR_take (v := ?_) rfl rfl ?_ ?_; rotate_left; (focus (rintro w' ⟨o', n', rfl⟩; go_simp; try with_reducible rfl)); simp only [Act.put, List.setIfInBounds_toArray, List.set_cons_zero, List.set_cons_succ]) | (refine wpR_pure (v := ?_) rfl rfl ?_ ?_; rotate_left; (focus (intro w'; go_simp; try with_reducible rfl)); simp only [Act.put, List.setIfInBounds_toArray, List.set_cons_zero, List.set_cons_succ]) | (refine wpR_takeG (v := ?_) rfl rfl rfl rfl rfl ?_ ?_; rotate_left; (focus (rintro w' ⟨o', n', rfl⟩; go_simp; try with_reducible rfl)); simp only [Act.put, List.setIfInBounds_toArray, List.set_cons_zero, List.set_cons_succ]) | (refine wpR_skip rfl rfl rfl rfl rfl rfl ?_; simp only [Act.put, List.setIfInBounds_toArray, List.set_cons_zero, List.set_cons_succ]) | (refine wpR_skipU rfl rfl rfl rfl rfl ?_; simp only [Act.put, List.setIfInBounds_toArray, List.set_cons_zero, List.set_cons_succ]) | (refine wpR_do rfl rfl (fun K hK => ?_)) | (refine wpR_doG rfl rfl rfl rfl rfl (fun K hK => ?_)) | (refine wpR_last rfl rfl (fun K hK => ?_)) | (refine wpR_nil ?_)) | ((with_reducible refine wpR_go ?_ ?_); (focus (show Grew _ _; repeat (first | (with_reducible exact Grew.refl _) | (with_reducible assumption) | (with_reducible exact Grew.same_o) | (with_reducible exact Grew.app_o) | (with_reducible refine Grew.ext ?_ _ _) | (with_reducible refine Grew.alloc ?_ _) | ((with_reducible refine Grew.setCell ?_ ?_ _); rotate_left; (focus (dsimp only; first | omega | (simp only [size_ext, World.size_alloc, Array.size_append]; omega)))) | (with_reducible refine Grew.drewN ?_ _) | (with_reducible refine Grew.drew ?_))))) | ((with_reducible refine upon_id ?_); refine upon_fop rfl (by assumption) (by assumption) ?_; intro rr nn hr) | (go_at_call 181; ((with_reducible refine (ratio_any bf br _ _ _ hff hfr).mono ?_); rintro e w1 ⟨rr, rfl, hr, o6, n6, rfl⟩)))
        go_roundw
        case rel => exact ⟨i + 1, oo, nn, hlt, by go_num, rfl, by rw [HS.out]; simpa using ho⟩
        case measure => simp [intOf]; omega
    · have e : i = N := by omega
      subst e
      go_wp2_with (first | (go_at_call 39; ((with_reducible refine (greatest_any _ _ _ (hown.fs (by omega))).mono ?_); rintro e w1 ⟨r, rfl, hr, o6, n6, rfl⟩)))
      refine bodyPost_ret (v := .tuple #[.float .f64 r, .int .i64 0]) (by simp [results, Try.results105, go_sem, *]) rfl ?_
      exact ⟨r, rfl, by rw [HQ.out]; exact hr, by first | exact Grew.trans gw gx | exact Grew.trans (Grew.trans gw gx) ⟨_, _, rfl⟩⟩
end Go.Proofs.Ytcmggfpcbijcjaa
end
section
/-
  Plain: the backward error of a matrix, as the program makes it, is one.
-/
set_option linter.unusedSimpArgs false
set_option linter.unusedVariables false
open Go Go.RowKit Sedge
namespace Go.Proofs.Ytcmggfpcbijcjaa
theorem tw_val : val TW = 8 * U := by decide +kernel
theorem tw_nn : nnB TW = true := by decide +kernel
theorem one_fin : fin 4607182418800017408 = true ∧ val 4607182418800017408 = 1 := by decide +kernel
theorem zero_fin : fin 0 = true ∧ val 0 = 0 := by decide +kernel
theorem nzB_val {x : Nat} (hx : fin x = true) : nzB x = false ↔ val x = 0 := by
  unfold nzB
  have := (order_val hx zero_fin.1).2.1
  rw [zero_fin.2] at this
  cases h : feq x 0
  · simp; intro h2; rw [this.2 h2] at h; cases h
  · simp; exact this.1 h
/-- The row's products, as the plain laws have them. -/
theorem row_eq (m : MatM) (X : List Nat) (s : Rat) {i n : Nat} (hi : i < m.rows.toNat) (hn : m.rows.toNat = n) (hc : m.cols.toNat = n) :
    exS s (prT n m.tab X i) n = exS s (fun j => -(val (m.num i j) * val (X.getD j 0))) n ∧ exB s (prT n m.tab X i) n = exB s (fun j => -(val (m.num i j) * val (X.getD j 0))) n :=
  exS_congr fun j hj => by
    unfold prT
    have h1 := tab_get (m := m) hi (j := j) (by omega)
    rw [hc] at h1
    rw [h1]
/-- A row whose weight is not 0. -/
theorem back_row (m : MatM) (X Y : List Nat) (hm : ∀ i, m.ws.getD i 0 < 2 ^ 64) (hX : ∀ i, X.getD i 0 < 2 ^ 64) (hY : ∀ i, Y.getD i 0 < 2 ^ 64) {n : Nat} (hn : m.rows.toNat = n) (hc : m.cols.toNat = n) (hr : n ≤ 16) {i : Nat} (hi : i < n)
    (hnz : nzB ((rebL m X Y).getD i 0) = true) (hnan : isNan (ratF ((bndL (resL m X Y) (rebL m X Y)).getD i 0) ((rebL m X Y).getD i 0)) = false) :
    fin (ratF ((bndL (resL m X Y) (rebL m X Y)).getD i 0) ((rebL m X Y).getD i 0)) = true ∧ 0 ≤ val (ratF ((bndL (resL m X Y) (rebL m X Y)).getD i 0) ((rebL m X Y).getD i 0)) ∧ val (ratF ((bndL (resL m X Y) (rebL m X Y)).getD i 0) ((rebL m X Y).getD i 0)) ≤ 1 ∧
    ∀ v, val (ratF ((bndL (resL m X Y) (rebL m X Y)).getD i 0) ((rebL m X Y).getD i 0)) ≤ v → (exS (val (Y.getD i 0)) (prT n m.tab X i) n).abs ≤ v * exB (val (Y.getD i 0)) (prT n m.tab X i) n := by
  obtain ⟨k1, k2, k3, k4⟩ := bnd_consts n (by omega)
  obtain ⟨n1, n2⟩ := bnd_nn n (by omega)
  obtain ⟨e1, e2⟩ := row_eq m X (val (Y.getD i 0)) (by omega) hn hc (i := i)
  rw [e1, e2]
  rw [bndL_get _ _ (by rw [resL_length]; omega), resL_length, resL_get m X Y (by omega), rebL_get m X Y (by omega), hc, hn] at hnan ⊢
  rw [rebL_get m X Y (by omega), hc] at hnz
  exact back_law (S := accR (fun i => Y.getD i 0) (fun s a j => fsub s (fmul a (X.getD j 0))) m.num i) (W := accR (fun i => fabs (Y.getD i 0)) (fun s a j => fadd s (fmul (fabs a) (fabs (X.getD j 0)))) m.num i) (A := fun j => m.num i j) (X := fun j => X.getD j 0)
    hr (fun j => hm _) hX (hY i) (fun j _ => rfl) rfl (fun j _ => rfl) k1 k2 k4 (nn_of n1) (nn_of n2) tw_val (nn_of tw_nn) (by unfold nzB at hnz; simpa using hnz) rfl rfl rfl hnan
/-- A row that is nothing. -/
theorem some_no {m : MatM} {X : List Nat} {b0 : Bool} {i : Nat} : ∀ {k : Nat}, someTo m X b0 i k = false → b0 = false ∧ ∀ j, j < k → (nzB (m.num i j) && nzB (X.getD j 0)) = false
  | 0, h => ⟨h, fun j hj => by omega⟩
  | k + 1, h => by
    have h' : (someTo m X b0 i k || (nzB (m.num i k) && nzB (X.getD k 0))) = false := h
    rw [Bool.or_eq_false_iff] at h'
    obtain ⟨h1, h2⟩ := some_no h'.1
    refine ⟨h1, fun j hj => ?_⟩
    by_cases hjk : j = k
    · subst hjk; exact h'.2
    · exact h2 j (by omega)
theorem exS_zero {T : Nat → Rat} : ∀ {n : Nat}, (∀ j, j < n → T j = 0) → exS 0 T n = 0
  | 0, _ => rfl
  | n + 1, h => by
    show exS 0 T n + T n = 0
    rw [exS_zero (fun j hj => h j (by omega)), h n (by omega)]
    grind
theorem nothing_row (m : MatM) (X Y : List Nat) {n : Nat} (hn : m.rows.toNat = n) (hc : m.cols.toNat = n) {i : Nat} (hi : i < n) (hXl : X.length = n) (fm : ∀ j, j < n → fin (m.num i j) = true) (fX : ∀ j, j < n → fin (X.getD j 0) = true) (fY : fin (Y.getD i 0) = true)
    (hs : someB m X Y i = false) : exS (val (Y.getD i 0)) (prT n m.tab X i) n = 0 := by
  rw [(row_eq m X (val (Y.getD i 0)) (by omega) hn hc (i := i)).1]
  obtain ⟨h1, h2⟩ := some_no hs
  rw [(nzB_val fY).1 h1]
  refine exS_zero fun j hj => ?_
  have h3 := h2 j (by omega)
  rw [Bool.and_eq_false_iff] at h3
  rcases h3 with h3 | h3
  · rw [(nzB_val (fm j hj)).1 h3]; grind
  · rw [(nzB_val (fX j hj)).1 h3]; grind
/-- The greatest of numbers from 0 to 1. -/
theorem fmax_spec {l : List Nat} (h : ∀ j, j < l.length → fin (l.getD j 0) = true ∧ 0 ≤ val (l.getD j 0) ∧ val (l.getD j 0) ≤ 1) : ∀ k, k ≤ l.length → fin (fmaxTo l k) = true ∧ 0 ≤ val (fmaxTo l k) ∧ val (fmaxTo l k) ≤ 1 ∧ ∀ j, j < k → val (l.getD j 0) ≤ val (fmaxTo l k)
  | 0, _ => ⟨zero_fin.1, by show 0 ≤ val 0; rw [zero_fin.2]; exact Rat.le_refl, by show val 0 ≤ 1; rw [zero_fin.2]; decide +kernel, fun j hj => by omega⟩
  | k + 1, hk => by
    obtain ⟨a1, a2, a3, a4⟩ := fmax_spec h k (by omega)
    obtain ⟨b1, b2, b3⟩ := h k (by omega)
    have ho := (order_val b1 a1).1
    show fin (if fgt (l.getD k 0) (fmaxTo l k) = true then l.getD k 0 else fmaxTo l k) = true ∧ 0 ≤ val (if fgt (l.getD k 0) (fmaxTo l k) = true then l.getD k 0 else fmaxTo l k) ∧ val (if fgt (l.getD k 0) (fmaxTo l k) = true then l.getD k 0 else fmaxTo l k) ≤ 1 ∧ ∀ j, j < k + 1 → val (l.getD j 0) ≤ val (if fgt (l.getD k 0) (fmaxTo l k) = true then l.getD k 0 else fmaxTo l k)
    by_cases hg : fgt (l.getD k 0) (fmaxTo l k) = true
    · rw [if_pos hg]
      have hlt := ho.1 hg
      refine ⟨b1, b2, b3, fun j hj => ?_⟩
      by_cases hjk : j = k
      · subst hjk; exact Rat.le_refl
      · exact Rat.le_trans (a4 j (by omega)) (Rat.le_of_lt hlt)
    · rw [if_neg hg]
      refine ⟨a1, a2, a3, fun j hj => ?_⟩
      by_cases hjk : j = k
      · subst hjk
        have : ¬ val (fmaxTo l j) < val (l.getD j 0) := fun h2 => hg (ho.2 h2)
        grind
      · exact a4 j (by omega)
theorem mem_blTo {m : MatM} {X Y F R : List Nat} {x : Nat} : ∀ {k : Nat}, x ∈ blTo m X Y F R k ↔ ∃ i, i < k ∧ (nzB (R.getD i 0) = true ∧ x = ratF (F.getD i 0) (R.getD i 0) ∨ nzB (R.getD i 0) = false ∧ someB m X Y i = true ∧ x = 4607182418800017408)
  | 0 => by
    constructor
    · intro h; cases h
    · rintro ⟨i, hi, _⟩; omega
  | k + 1 => by
    have e : blTo m X Y F R (k + 1) = blTo m X Y F R k ++ (if nzB (R.getD k 0) = true then [ratF (F.getD k 0) (R.getD k 0)] else if someB m X Y k = true then [4607182418800017408] else []) := rfl
    rw [e, List.mem_append, mem_blTo (k := k)]
    constructor
    · rintro (⟨i, hi, h⟩ | h)
      · exact ⟨i, by omega, h⟩
      · refine ⟨k, by omega, ?_⟩
        split at h
        · rename_i h1; simp at h; exact .inl ⟨h1, h⟩
        · rename_i h1
          split at h
          · rename_i h2; simp at h; exact .inr ⟨by simpa using h1, h2, h⟩
          · cases h
    · rintro ⟨i, hi, h⟩
      by_cases hik : i = k
      · subst hik
        right
        rcases h with ⟨h1, h2⟩ | ⟨h1, h2, h3⟩
        · rw [if_pos h1]; simp [h2]
        · rw [if_neg (by rw [h1]; decide), if_pos h2]; simp [h3]
      · exact .inl ⟨i, by omega, h⟩
/-- THE BACKWARD ERROR IS ONE. -/
theorem berr_law (m : MatM) (X Y : List Nat) (hm : ∀ i, m.ws.getD i 0 < 2 ^ 64) (hX : ∀ i, X.getD i 0 < 2 ^ 64) (hY : ∀ i, Y.getD i 0 < 2 ^ 64) {n : Nat} (hn : m.rows.toNat = n) (hc : m.cols.toNat = n) (hr : n ≤ 16) (hXl : X.length = n)
    (fm : ∀ i j, i < n → j < n → fin (m.num i j) = true) (fX : ∀ j, j < n → fin (X.getD j 0) = true) (fY : ∀ j, j < n → fin (Y.getD j 0) = true) (hnan : isNan (berF m X Y) = false) :
    fin (berF m X Y) = true ∧ 0 ≤ val (berF m X Y) ∧ val (berF m X Y) ≤ 1 ∧ ∀ i, i < n → (exS (val (Y.getD i 0)) (prT n m.tab X i) n).abs ≤ val (berF m X Y) * exB (val (Y.getD i 0)) (prT n m.tab X i) n := by
  obtain ⟨l, hl⟩ : ∃ l, l = blTo m X Y (bndL (resL m X Y) (rebL m X Y)) (rebL m X Y) n := ⟨_, rfl⟩
  have hb : berF m X Y = fgreatest l := by unfold berF; rw [hl, hn]
  rw [hb] at hnan ⊢
  unfold fgreatest at hnan ⊢
  have ha : anyNan l = false := by
    cases h : anyNan l
    · rfl
    · rw [if_pos h, isNan_QN] at hnan; cases hnan
  rw [ha] at hnan ⊢
  simp only [Bool.false_eq_true, if_false] at hnan ⊢
  have hnn : ∀ x ∈ l, isNan x = false := fun x hx => by
    unfold anyNan at ha
    rw [List.any_eq_false] at ha
    simpa using ha x hx
  have hel : ∀ j, j < l.length → fin (l.getD j 0) = true ∧ 0 ≤ val (l.getD j 0) ∧ val (l.getD j 0) ≤ 1 := fun j hj => by
    have hmem : l.getD j 0 ∈ l := by rw [List.getD_eq_getElem?_getD, List.getElem?_eq_getElem hj]; exact List.getElem_mem hj
    have h0 := hnn _ hmem
    generalize l.getD j 0 = x at *
    rw [hl, mem_blTo] at hmem
    obtain ⟨i, hi, h | h⟩ := hmem
    · obtain ⟨h1, rfl⟩ := h
      obtain ⟨b1, b2, b3, _⟩ := back_row m X Y hm hX hY hn hc hr hi h1 h0
      exact ⟨b1, b2, b3⟩
    · rw [h.2.2]
      exact ⟨one_fin.1, by rw [one_fin.2]; decide +kernel, by rw [one_fin.2]; exact Rat.le_refl⟩
  obtain ⟨g1, g2, g3, g4⟩ := fmax_spec hel l.length (Nat.le_refl _)
  have hle : ∀ x ∈ l, val x ≤ val (fmaxTo l l.length) := fun x hx => by
    obtain ⟨j, hj, rfl⟩ := List.getElem_of_mem hx
    have := g4 j hj
    rw [List.getD_eq_getElem?_getD, List.getElem?_eq_getElem hj] at this
    exact this
  refine ⟨g1, g2, g3, fun i hi => ?_⟩
  have hB := exB_nonneg (val (Y.getD i 0)) (prT n m.tab X i) n
  cases hnz : nzB ((rebL m X Y).getD i 0)
  · cases hs : someB m X Y i
    · rw [nothing_row m X Y hn hc hi hXl (fun j hj => fm i j hi hj) fX (fY i hi) hs]
      have e0 : (0 : Rat).abs = 0 := by decide +kernel
      rw [e0]
      exact Rat.mul_nonneg g2 hB
    · have hin : 4607182418800017408 ∈ l := by rw [hl, mem_blTo]; exact ⟨i, hi, .inr ⟨hnz, hs, rfl⟩⟩
      have h1 := hle _ hin
      rw [one_fin.2] at h1
      have h2 := exS_le (val (Y.getD i 0)) (prT n m.tab X i) n
      have h3 := Rat.mul_le_mul_of_nonneg_right h1 hB
      grind
  · have hin : ratF ((bndL (resL m X Y) (rebL m X Y)).getD i 0) ((rebL m X Y).getD i 0) ∈ l := by rw [hl, mem_blTo]; exact ⟨i, hi, .inl ⟨hnz, rfl⟩⟩
    exact (back_row m X Y hm hX hY hn hc hr hi hnz (hnn _ hin)).2.2.2 _ (hle _ hin)
end Go.Proofs.Ytcmggfpcbijcjaa
end
section
/-
  Contracts: straightedgeref22.Backward, where it holds.
-/
set_option linter.unusedSimpArgs false
set_option linter.unusedVariables false
open Go Go.RowKit Sedge
namespace Go.Proofs.Ytcmggfpcbijcjaa
set_option maxRecDepth 100000 in
set_option maxHeartbeats 8000000 in
theorem backward_any (R C : Nat) (A VX VY : Value) (ws X Y : List Nat) (q κ : Nat) (w : World) (hA : FS w A ws) (hX : FS w VX X) (hY : FS w VY Y) (hq : IsF q κ) (hR : R ≤ 64) (hC : C ≤ 1000) (hl : ∀ i j, i < R → j < R → i * C + j < ws.length) (hXl : R ≤ X.length) (hYl : R ≤ Y.length) (hXm : X.length ≤ 1000) (hYm : Y.length ≤ 1000)
    (hlaw : ∀ i, i < R → (exS (val (Y.getD i 0)) (prT C ws X i) R).abs ≤ val κ * exB (val (Y.getD i 0)) (prT C ws X i) R) :
   Calls Try.prog 108 #[.agg #[.int .i64 R, .int .i64 C, A], VX, VY, .float .f64 q] w (fun e w' => e = .returned (.bool true) ∧ ∃ o n, w' = ext w o n) := by
  obtain ⟨aA, cA, rfl⟩ := hA.shape
  obtain ⟨aX, cX, rfl⟩ := hX.shape
  obtain ⟨aY, cY, rfl⟩ := hY.shape
  have hEx : ∀ i w', i < R → Grew w w' → Calls Try.prog 95 #[.agg #[.int .i64 R, .int .i64 C, .slice aA ws.length cA], .slice aX X.length cX, .slice aY Y.length cY, .int .i64 i] w' (fun e w2 => ∃ v1 v2, e = .returned (.tuple #[v1, v2]) ∧ DV w2 v1 (exS (val (Y.getD i 0)) (prT C ws X i) R) (-150) 250 ∧ DV w2 v2 (exB (val (Y.getD i 0)) (prT C ws X i) R) (-150) 250 ∧ ∃ o n, w2 = ext w' o n) := fun i w' hi g =>
    exact_any R C _ _ _ ws X Y i w' (hA.grew g) (hX.grew g) (hY.grew g) hR hC (by omega) (fun j hj => hl i j hi hj) hXl (by omega) hXm hYm
  obtain ⟨S, hS⟩ : ∃ S : Nat → Rat, S = fun i => exS (val (Y.getD i 0)) (prT C ws X i) R := ⟨_, rfl⟩
  obtain ⟨B, hB⟩ : ∃ B : Nat → Rat, B = fun i => exB (val (Y.getD i 0)) (prT C ws X i) R := ⟨_, rfl⟩
  have hEx2 : ∀ i w', i < R → Grew w w' → Calls Try.prog 95 #[.agg #[.int .i64 R, .int .i64 C, .slice aA ws.length cA], .slice aX X.length cX, .slice aY Y.length cY, .int .i64 i] w' (fun e w2 => ∃ v1 v2, e = .returned (.tuple #[v1, v2]) ∧ DV w2 v1 (S i) (-150) 250 ∧ DV w2 v2 (B i) (-150) 250 ∧ ∃ o n, w2 = ext w' o n) := by rw [hS, hB]; exact hEx
  have HLAW : Hid (∀ i, i < R → (S i).abs ≤ val κ * B i) := hid (by rw [hS, hB]; exact hlaw)
  have HQ := hid hq
  obtain ⟨lA, hlA⟩ : ∃ lA, lA = ws.length := ⟨_, rfl⟩
  obtain ⟨lX, hlX⟩ : ∃ lX, lX = X.length := ⟨_, rfl⟩
  obtain ⟨lY, hlY⟩ : ∃ lY, lY = Y.length := ⟨_, rfl⟩
  rw [← hlA, ← hlX, ← hlY] at hEx2 ⊢
  clear hEx hlaw hS hB hl hA hX hY hq hlA hlX hlY hXl hYl hXm hYm
  go_enter Try.func108, Try.ntmps108
  refine seq_stop ?_
  go_wp2
  refine stop_go (fun W hW => ?_)
  have s1 : w.heap.size < W.heap.size := by rw [hW]; simp only [World.size_alloc]; omega
  have b1 : ∀ i, W.cell? ⟨w.heap.size, i, none⟩ = (#[.int .i64 R, .int .i64 C, .slice aA lA cA] : Array Value)[i]? := by intro i; rw [hW]; go_simp
  have g0 : Grew w W := by rw [hW]; exact (Grew.refl _).alloc _
  clear hW
  go_wp2
  go_loopw [9] (fun c wx => ∃ (i : Nat) (o : Array Obj) (k : Nat), i ≤ R ∧ c = .int .i64 i ∧ wx = ext W o k) (fun c _ => R - (intOf c).toNat)
  case atStart => exact ⟨0, #[], _, Nat.zero_le _, rfl, ext_zero.symm⟩
  case round =>
    obtain ⟨i, oo, kk, hi, rfl, rfl⟩ := hrel
    by_cases hin : i < R
    · have hex := fun w' g => hEx2 i w' hin (Grew.trans g0 g)
      obtain ⟨Z, hZ⟩ : ∃ Z, Z = sgE ((S i).abs - val κ * B i) := ⟨_, rfl⟩
      have hZ0 : Z ≤ 0 := by
        rw [hZ]
        have h := HLAW.out i hin
        unfold sgE
        split
        · decide
        · rename_i h0
          rw [if_pos (by grind)]; decide
      have dZ : decide (0 < Z) = false := by simp; omega
      obtain ⟨qS, hqS⟩ : ∃ q, q = S i := ⟨_, rfl⟩
      obtain ⟨qB, hqB⟩ : ∃ q, q = B i := ⟨_, rfl⟩
      rw [← hqS, ← hqB] at hex
      rw [← hqS, ← hqB] at hZ
      have HZ := hid hZ
      clear hqS hqB hZ hZ0
      go_upto_region 5 with (first | (go_at_call 95; ((with_reducible refine (hex _ (by (show Grew _ _; (try simp only [← Array.append_assoc]); repeat (first | (with_reducible exact Grew.same_o) | (with_reducible exact Grew.refl _) | (with_reducible assumption) | (with_reducible refine Grew.alloc ?_ _) | (with_reducible refine Grew.app_r ?_) | ((with_reducible refine Grew.setCell ?_ ?_ _); rotate_left; (focus (dsimp only; first | omega | (simp only [size_ext, World.size_alloc, Array.size_append]; omega)))) | (with_reducible refine Grew.ext ?_ _ _) | (with_reducible refine Grew.drewN ?_ _) | (with_reducible refine Grew.drew ?_))))).mono ?_); rintro e w1 ⟨v1, v2, rfl, hv1, hv2, o1, n1, rfl⟩; (obtain ⟨p1, p2, p3, p4, p5, rfl⟩ := hv1.shape); (obtain ⟨q1, q2, q3, q4, q5, rfl⟩ := hv2.shape); (try simp only [ext_ext] at hv1); (try simp only [ext_ext] at hv2))))
      refine name_any (fun U hU => ?_)
      obtain ⟨k10, hk10⟩ : ∃ k10, k10 = W.heap.size + (oo.size + o1.size) := ⟨_, rfl⟩
      have gU : Grew W U := by rw [← hU]; (show Grew _ _; (try simp only [← Array.append_assoc]); repeat (first | (with_reducible exact Grew.same_o) | (with_reducible exact Grew.refl _) | (with_reducible assumption) | (with_reducible refine Grew.alloc ?_ _) | (with_reducible refine Grew.app_r ?_) | ((with_reducible refine Grew.setCell ?_ ?_ _); rotate_left; (focus (dsimp only; first | omega | (simp only [size_ext, World.size_alloc, Array.size_append]; omega)))) | (with_reducible refine Grew.ext ?_ _ _) | (with_reducible refine Grew.drewN ?_ _) | (with_reducible refine Grew.drew ?_)))
      have c10 : ∀ i, U.cell? ⟨k10, i, none⟩ = (#[.bool p1, .slice p2 p3 p4, .int .i64 p5] : Array Value)[i]? := by subst hU; rw [hk10]; intro i; go_simp
      have c11 : ∀ i, U.cell? ⟨k10 + 1, i, none⟩ = (#[.bool q1, .slice q2 q3 q4, .int .i64 q5] : Array Value)[i]? := by subst hU; rw [hk10]; intro i; go_simp
      have z10 : k10 < U.heap.size := by rw [← hU, hk10]; simp only [World.size_alloc, size_ext, Array.size_append]; omega
      have z11 : k10 + 1 < U.heap.size := by rw [← hU, hk10]; simp only [World.size_alloc, size_ext, Array.size_append]; omega
      have hS : DV U (.agg #[.bool p1, .slice p2 p3 p4, .int .i64 p5]) qS (-150) 250 := hv1.grew (by rw [← hU]; (show Grew _ _; (try simp only [← Array.append_assoc]); repeat (first | (with_reducible exact Grew.same_o) | (with_reducible exact Grew.refl _) | (with_reducible assumption) | (with_reducible refine Grew.alloc ?_ _) | (with_reducible refine Grew.app_r ?_) | ((with_reducible refine Grew.setCell ?_ ?_ _); rotate_left; (focus (dsimp only; first | omega | (simp only [size_ext, World.size_alloc, Array.size_append]; omega)))) | (with_reducible refine Grew.ext ?_ _ _) | (with_reducible refine Grew.drewN ?_ _) | (with_reducible refine Grew.drew ?_))))
      have hB : DV U (.agg #[.bool q1, .slice q2 q3 q4, .int .i64 q5]) qB (-150) 250 := hv2.grew (by rw [← hU]; (show Grew _ _; (try simp only [← Array.append_assoc]); repeat (first | (with_reducible exact Grew.same_o) | (with_reducible exact Grew.refl _) | (with_reducible assumption) | (with_reducible refine Grew.alloc ?_ _) | (with_reducible refine Grew.app_r ?_) | ((with_reducible refine Grew.setCell ?_ ?_ _); rotate_left; (focus (dsimp only; first | omega | (simp only [size_ext, World.size_alloc, Array.size_append]; omega)))) | (with_reducible refine Grew.ext ?_ _ _) | (with_reducible refine Grew.drewN ?_ _) | (with_reducible refine Grew.drew ?_))))
      have hcm : ∀ V1 V2 w', DV w' V1 qS.abs (-250) 350 → DV w' V2 (val κ * qB) (-250) 350 → Calls Try.prog 34 #[V1, V2] w' (fun e w2 => e = .returned (.int .i64 Z) ∧ ∃ o n, w2 = ext w' o n) := fun V1 V2 w' h1 h2 => by
        rw [HZ.out]; exact dcmp_any _ _ _ _ (-250) 350 w' h1 h2 (by decide) (by decide)
      simp only [← hk10]
      clear hU hk10 hv1 hv2 hex
      refine wp_region_R (Grew U) [] [(0,0), (0,2), (0,4), (1,1), (1,3), (1,5), (1,6), (0,7)] (by kernel_rfl) (by kernel_rfl) (fun _ _ _ _ h _ => h) (by first | exact ⟨_, _, ext_drew⟩ | exact ⟨_, _, drew_ext0⟩ | (show Grew _ _; repeat (first | (with_reducible exact Grew.refl _) | (with_reducible assumption) | (with_reducible exact Grew.same_o) | (with_reducible exact Grew.app_o) | (with_reducible refine Grew.ext ?_ _ _) | (with_reducible refine Grew.alloc ?_ _) | ((with_reducible refine Grew.setCell ?_ ?_ _); rotate_left; (focus (dsimp only; first | omega | (simp only [size_ext, World.size_alloc, Array.size_append]; omega)))) | (with_reducible refine Grew.drewN ?_ _) | (with_reducible refine Grew.drew ?_)))) ?_
      go_wp2_with (first | ((with_reducible refine wpR_id ?_); first | (refine wpR_take (v := ?_) rfl rfl ?_ ?_; rotate_left; (focus (rintro w' ⟨o', n', rfl⟩; go_simp; try with_reducible rfl)); simp only [Act.put, List.setIfInBounds_toArray, List.set_cons_zero, List.set_cons_succ]) | (refine wpR_pure (v := ?_) rfl rfl ?_ ?_; rotate_left; (focus (intro w'; go_simp; try with_reducible rfl)); simp only [Act.put, List.setIfInBounds_toArray, List.set_cons_zero, List.set_cons_succ]) | (refine wpR_takeG (v := ?_) rfl rfl rfl rfl rfl ?_ ?_; rotate_left; (focus (rintro w' ⟨o', n', rfl⟩; go_simp; try with_reducible rfl)); simp only [Act.put, List.setIfInBounds_toArray, List.set_cons_zero, List.set_cons_succ]) | (refine wpR_skip rfl rfl rfl rfl rfl rfl ?_; simp only [Act.put, List.setIfInBounds_toArray, List.set_cons_zero, List.set_cons_succ]) | (refine wpR_skipU rfl rfl rfl rfl rfl ?_; simp only [Act.put, List.setIfInBounds_toArray, List.set_cons_zero, List.set_cons_succ]) | (refine wpR_do rfl rfl (fun K hK => ?_)) | (refine wpR_doG rfl rfl rfl rfl rfl (fun K hK => ?_)) | (refine wpR_last rfl rfl (fun K hK => ?_)) | (refine wpR_nil ?_)) | ((with_reducible refine wpR_go ?_ ?_); (focus (show Grew _ _; repeat (first | (with_reducible exact Grew.refl _) | (with_reducible assumption) | (with_reducible exact Grew.same_o) | (with_reducible exact Grew.app_o) | (with_reducible refine Grew.ext ?_ _ _) | (with_reducible refine Grew.alloc ?_ _) | ((with_reducible refine Grew.setCell ?_ ?_ _); rotate_left; (focus (dsimp only; first | omega | (simp only [size_ext, World.size_alloc, Array.size_append]; omega)))) | (with_reducible refine Grew.drewN ?_ _) | (with_reducible refine Grew.drew ?_))))) | ((with_reducible refine upon_id ?_); refine upon_fop rfl (by assumption) (by assumption) ?_; intro rr nn hr) | (go_at_call 30; ((with_reducible refine (dabs_any _ _ _ _ _ (hS.grew (by (show Grew _ _; (try simp only [← Array.append_assoc]); repeat (first | (with_reducible exact Grew.same_o) | (with_reducible exact Grew.refl _) | (with_reducible assumption) | (with_reducible refine Grew.alloc ?_ _) | (with_reducible refine Grew.app_r ?_) | ((with_reducible refine Grew.setCell ?_ ?_ _); rotate_left; (focus (dsimp only; first | omega | (simp only [size_ext, World.size_alloc, Array.size_append]; omega)))) | (with_reducible refine Grew.ext ?_ _ _) | (with_reducible refine Grew.drewN ?_ _) | (with_reducible refine Grew.drew ?_)))))).mono ?_); rintro e w1 ⟨va, rfl, hva, hka, oa, na, rfl⟩; (obtain ⟨x1, x2, x3, x4, x5, rfl⟩ := hva.shape); (try simp only [drew_ext, drewN_ext, ext_ext] at hva))) | (go_at_call 27; ((with_reducible refine (of_any q κ _ HQ.out).mono ?_); rintro e w1 ⟨vb, rfl, hvb, hkb, ob, nb, rfl⟩; (obtain ⟨y1, y2, y3, y4, y5, rfl⟩ := hvb.shape); (try simp only [drew_ext, drewN_ext, ext_ext] at hvb))) | (go_at_call 28; ((with_reducible refine (dmul_any _ _ _ _ (-70) 70 (-150) 250 _ (hvb.grew (by (show Grew _ _; (try simp only [← Array.append_assoc]); repeat (first | (with_reducible exact Grew.same_o) | (with_reducible exact Grew.refl _) | (with_reducible assumption) | (with_reducible refine Grew.alloc ?_ _) | (with_reducible refine Grew.app_r ?_) | ((with_reducible refine Grew.setCell ?_ ?_ _); rotate_left; (focus (dsimp only; first | omega | (simp only [size_ext, World.size_alloc, Array.size_append]; omega)))) | (with_reducible refine Grew.ext ?_ _ _) | (with_reducible refine Grew.drewN ?_ _) | (with_reducible refine Grew.drew ?_))))) (hB.grew (by (show Grew _ _; (try simp only [← Array.append_assoc]); repeat (first | (with_reducible exact Grew.same_o) | (with_reducible exact Grew.refl _) | (with_reducible assumption) | (with_reducible refine Grew.alloc ?_ _) | (with_reducible refine Grew.app_r ?_) | ((with_reducible refine Grew.setCell ?_ ?_ _); rotate_left; (focus (dsimp only; first | omega | (simp only [size_ext, World.size_alloc, Array.size_append]; omega)))) | (with_reducible refine Grew.ext ?_ _ _) | (with_reducible refine Grew.drewN ?_ _) | (with_reducible refine Grew.drew ?_))))) (by decide) (by decide) (by decide) (by decide)).mono ?_); rintro e w1 ⟨vd, rfl, hvd, hkd, od, nd, rfl⟩; (obtain ⟨w1', w2', w3', w4', w5', rfl⟩ := hvd.shape); (try simp only [drew_ext, drewN_ext, ext_ext] at hvd))) | (go_at_call 34; ((with_reducible refine (hcm _ _ _ ((hva.grew (by (show Grew _ _; (try simp only [← Array.append_assoc]); repeat (first | (with_reducible exact Grew.same_o) | (with_reducible exact Grew.refl _) | (with_reducible assumption) | (with_reducible refine Grew.alloc ?_ _) | (with_reducible refine Grew.app_r ?_) | ((with_reducible refine Grew.setCell ?_ ?_ _); rotate_left; (focus (dsimp only; first | omega | (simp only [size_ext, World.size_alloc, Array.size_append]; omega)))) | (with_reducible refine Grew.ext ?_ _ _) | (with_reducible refine Grew.drewN ?_ _) | (with_reducible refine Grew.drew ?_))))).mono (by decide) (by decide)) ((hvd.grew (by (show Grew _ _; (try simp only [← Array.append_assoc]); repeat (first | (with_reducible exact Grew.same_o) | (with_reducible exact Grew.refl _) | (with_reducible assumption) | (with_reducible refine Grew.alloc ?_ _) | (with_reducible refine Grew.app_r ?_) | ((with_reducible refine Grew.setCell ?_ ?_ _); rotate_left; (focus (dsimp only; first | omega | (simp only [size_ext, World.size_alloc, Array.size_append]; omega)))) | (with_reducible refine Grew.ext ?_ _ _) | (with_reducible refine Grew.drewN ?_ _) | (with_reducible refine Grew.drew ?_))))).mono (by decide) (by decide))).mono ?_); rintro e w1 ⟨rfl, oc, nc, rfl⟩)))
      go_roundw
      case rel =>
        obtain ⟨oX, nX, hX⟩ := Grew.trans gU (⟨_, _, rfl⟩ : Grew U (ext U (oa ++ (ob ++ (od ++ oc))) nc))
        exact ⟨i + 1, oX, nX, hin, by go_num, hX⟩
      case measure => simp [intOf]; omega
    · have e : i = R := by omega
      subst e
      go_wp2
      go_ret
      exact ⟨rfl, Grew.trans g0 (by (show Grew _ _; (try simp only [← Array.append_assoc]); repeat (first | (with_reducible exact Grew.same_o) | (with_reducible exact Grew.refl _) | (with_reducible assumption) | (with_reducible refine Grew.alloc ?_ _) | (with_reducible refine Grew.app_r ?_) | ((with_reducible refine Grew.setCell ?_ ?_ _); rotate_left; (focus (dsimp only; first | omega | (simp only [size_ext, World.size_alloc, Array.size_append]; omega)))) | (with_reducible refine Grew.ext ?_ _ _) | (with_reducible refine Grew.drewN ?_ _) | (with_reducible refine Grew.drew ?_))))⟩
end Go.Proofs.Ytcmggfpcbijcjaa
end
section
/-
  Plain: lists of finite numbers.
-/
set_option linter.unusedSimpArgs false
set_option linter.unusedVariables false
open Go Go.RowKit Sedge
namespace Go.Proofs.Ytcmggfpcbijcjaa
theorem finL_at {l : List Nat} (h : finL l = true) {i : Nat} (hi : i < l.length) : finB (l.getD i 0) = true := by
  unfold finL at h
  rw [List.all_eq_true] at h
  refine h _ ?_
  rw [List.getD_eq_getElem?_getD, List.getElem?_eq_getElem hi]; exact List.getElem_mem hi
theorem fin_finB {x : Nat} (hx : x < 2 ^ 64) : fin x = finB x := fin_kind hx
end Go.Proofs.Ytcmggfpcbijcjaa
end
section
/-
  Contract: view.Dense with its numbers written out; the example of layer 4.
-/
set_option linter.unusedSimpArgs false
set_option linter.unusedVariables false
open Go Go.RowKit Sedge
namespace Go.Proofs.Ytcmggfpcbijcjaa
/-- The list that Dense makes. -/
def denseTo (r c : Nat) (l : List Nat) (k : Nat) : List Nat := writes (List.replicate (r * c) 0) (fun k => k / c + k % c * r) (fun k => l.getD k 0) k
def denseL (r c : Nat) (l : List Nat) : List Nat := denseTo r c l (min l.length (r * c))
set_option maxRecDepth 100000 in
set_option maxHeartbeats 1000000 in
/-- view.Dense, of sizes within 64. -/
theorem dense_any (r c : Nat) (aL : Option Addr) (ls : List Nat) (w : World) (hL : FS w (.slice aL ls.length ls.length) ls) (hr : r ≤ 64) (hc : c ≤ 64) (hr1 : 1 ≤ r) (hc1 : 1 ≤ c) (hlen : ls.length = r * c) :
   Calls Try.prog 69 #[.int .i64 r, .int .i64 c, .slice aL ls.length ls.length] w (fun e w' => ∃ v, e = .returned (.agg #[v, .int .i64 0, .int .i64 r, .int .i64 c, .int .i64 r]) ∧ WS w' w.heap.size v (denseL r c ls) ∧ ∃ o n, w' = ext w o n) := by
  have hm : r * c ≤ 64 * 64 := Nat.mul_le_mul hr hc
  have h2 : IntKind.i64.wrap ((r : Int) * c) = (r : Int) * c := IntWalk.i64_in _ (by rw [← Int.natCast_mul]; omega)
  have hlL := hL.len
  have d1 : decide ((r : Int) < 0) = false := by simp
  have d2 : decide ((c : Int) < 0) = false := by simp
  have d3 : decide ((64 : Int) < (r : Int)) = false := by simp; omega
  have d4 : decide ((64 : Int) < (c : Int)) = false := by simp; omega
  have d5 : (ls.length : Int) = (r : Int) * c := by rw [hlen, Int.natCast_mul]
  have d6 : decide ((1 : Int) ≤ (r : Int)) = true := by simp; omega
  go_enter Try.func69, Try.ntmps69
  refine seq_stop ?_
  go_wp2
  refine stop_go (fun W hW => ?_)
  have s1 : w.heap.size < W.heap.size := by rw [hW]; simp only [World.size_alloc]; omega
  have b1 : ∀ i, W.cell? ⟨w.heap.size, i, none⟩ = (#[.slice none 0 0, .int .i64 0, .int .i64 0, .int .i64 0, .int .i64 0] : Array Value)[i]? := by intro i; rw [hW]; go_simp
  have f1 : ∀ i, W.frozen? ⟨w.heap.size, i, none⟩ = false := by intro i; rw [hW]; go_simp
  have g0 : Grew w W := by rw [hW]; exact (Grew.refl _).alloc _
  clear hW
  have hLW : FS W (.slice aL ls.length ls.length) ls := hL.grew g0
  go_wp2_with (at_make; refine make_f (L := (r : Int) * (c : Int)) finfo (Grew.refl W) _ _ rfl rfl (r * c) (Int.natCast_mul r c).symm rfl rfl (by omega) ?_; intro oo nn k hk ho; have hF := ho.made)
  refine name_any (fun V hV => ?_)
  have gV : Grew W V := by rw [← hV]; (show Grew _ _; repeat (first | (with_reducible exact Grew.refl _) | (with_reducible assumption) | (with_reducible refine Grew.ext ?_ _ _) | (with_reducible refine Grew.alloc ?_ _) | ((with_reducible refine Grew.setCell ?_ ?_ _); rotate_left; (focus (dsimp only; first | omega | (simp only [size_ext, World.size_alloc, Array.size_append]; omega)))) | (with_reducible refine Grew.drewN ?_ _) | (with_reducible refine Grew.drew ?_)))
  have sV := gV.below.size
  have k1 : w.heap.size < V.heap.size := by omega
  have k3 : W.heap.size + oo.size < V.heap.size := by rw [← hV]; simp only [World.size_alloc, size_ext]; omega
  have c1 : ∀ i, V.cell? ⟨w.heap.size, i, none⟩ = (#[.slice none 0 0, .int .i64 0, .int .i64 0, .int .i64 0, .int .i64 0] : Array Value)[i]? := fun i => (gV.cell s1).trans (b1 i)
  have z1 : ∀ i, V.frozen? ⟨w.heap.size, i, none⟩ = false := fun i => (gV.frozen s1).trans (f1 i)
  have c3 : ∀ i, V.cell? ⟨W.heap.size + oo.size, i, none⟩ = (#[.slice (some ⟨k, 0, none⟩) (r * c) (r * c), .int .i64 0, .int .i64 r, .int .i64 c, .int .i64 r] : Array Value)[i]? := by subst hV; intro i; go_simp
  have hFV : FW V k (List.replicate (r * c) 0) := by rw [← hV]; (repeat (first | (with_reducible assumption) | ((with_reducible refine FW.ext_set ?_ ?_ ?_ _); rotate_left; (focus (simp only [size_setCell', World.size_alloc, size_ext, size_upd]; omega)); (focus (dsimp only; omega))) | ((with_reducible refine FW.setCell_ne ?_ ?_ _); rotate_left; (focus (dsimp only; omega))) | (with_reducible refine FW.ext ?_ _ _) | (with_reducible refine FW.alloc ?_ _)))
  have hLV : FS V (.slice aL ls.length ls.length) ls := hLW.grew gV
  have gl := hFV.lt
  have q1 : w.heap.size ≠ k := by omega
  have q3 : W.heap.size + oo.size ≠ k := by have := hF.lt; simp only [size_ext] at this; omega
  have HL := hid hlen
  clear hV b1 f1 hL ho
  go_loopw [43] (fun s wr => ∃ (i : Nat) (cs : Array Value) (o : Array Obj) (n : Nat), i ≤ r * c ∧ s = .int .i64 i ∧ wr = ext (upd V k cs) o n ∧ CF cs (denseTo r c ls i)) (fun s _ => r * c - (intOf s).toNat)
  case atStart =>
    obtain ⟨cs, h1, h2⟩ := hFV.self
    exact ⟨0, cs, #[], _, Nat.zero_le _, rfl, by rw [h1]; exact ext_zero.symm, h2⟩
  case round =>
    obtain ⟨i, cs, o2, n2, hi, rfl, hwr, hcs⟩ := hrel
    subst hwr
    by_cases hlt : i < r * c
    · have e1 : i / c < r := by rw [Nat.div_lt_iff_lt_mul (by omega)]; exact hlt
      have e2 : i % c < c := Nat.mod_lt _ (by omega)
      have e3 : i % c * r + r ≤ c * r := by have := Nat.mul_le_mul_right r e2; rw [Nat.succ_mul] at this; exact this
      have e4 : c * r = r * c := Nat.mul_comm c r
      obtain ⟨p, hp⟩ : ∃ p : Nat, p = i / c := ⟨_, rfl⟩
      obtain ⟨q, hq⟩ : ∃ q : Nat, q = i % c := ⟨_, rfl⟩
      rw [← hp] at e1
      rw [← hq] at e2 e3
      have hq1 : (i : Int).tdiv c = (p : Int) := by rw [hp]; rfl
      have hq2 : (i : Int).tmod c = (q : Int) := by rw [hq]; rfl
      have hq3 : (i : Int) / c = (p : Int) := by rw [hp]; rfl
      have hq4 : (i : Int) % c = (q : Int) := by rw [hq]; rfl
      have m0 : (q : Int) * r = ((q * r : Nat) : Int) := (Int.natCast_mul q r).symm
      have w1 : IntKind.i64.wrap ((q : Int) * r) = (q : Int) * r := IntWalk.i64_in _ (by omega)
      have w2 : IntKind.i64.wrap ((p : Int) + (q : Int) * r) = (p : Int) + (q : Int) * r := IntWalk.i64_in _ (by omega)
      have n0 : ((p : Int) + (q : Int) * r).toNat = p + q * r := by omega
      have n1 : 0 ≤ (p : Int) + (q : Int) * r := by omega
      have n3 : (p : Int) + (q : Int) * r < ((r * c : Nat) : Int) := by omega
      have n2' : (c : Int) ≠ 0 := by omega
      have n6 : (p : Int) + (q : Int) * r < (r : Int) * c := by rw [← Int.natCast_mul r c]; exact n3
      have n8 : p + q * r < r * c := by omega
      have n5 : ¬ c = 0 := by omega
      have w0 : IntKind.i64.wrap (p : Int) = p := IntWalk.i64_in _ (by omega)
      have w3 : IntKind.i64.wrap (q : Int) = q := IntWalk.i64_in _ (by omega)
      have n4 : ((c : Int) == 0) = false := by simp; omega
      have fz : ∀ i, V.frozen? ⟨k, i, none⟩ = false := hFV.notFrozen
      have hlen2 : (denseTo r c ls i).length = r * c := by simp [denseTo]
      obtain ⟨r0, hr0, _⟩ := (hFV.mk' hcs o2 n2).get (i := p + q * r) (by rw [hlen2]; omega)
      have hr1 := (cell_ext (by simpa using gl)).symm.trans hr0
      obtain ⟨blk, o, rfl, hblk, hc⟩ := hLW.at.2 (by omega)
      obtain ⟨b, hb0, hf⟩ := hc i (by omega)
      have hb := (gV.cell hblk).trans hb0
      have qb : blk ≠ k := by omega
      have kb : blk < V.heap.size := by omega
      have Hp := hid hp
      have Hq := hid hq
      clear hb0 hc hr0 m0 hp hq
      go_wp2
      refine wp_region_R (Over V k) [] [(0,0), (0,1), (0,2), (0,3), (0,4), (0,5), (0,6), (0,7), (0,8), (0,9), (0,10), (0,11), (0,12), (0,13), (1,14)] (by kernel_rfl) (by kernel_rfl) (fun _ _ _ _ h _ => h) ⟨_, _, _, ext_drew⟩ ?_
      go_wp2_with (first | ((with_reducible refine wpR_id ?_); first | (refine wpR_take (v := ?_) rfl rfl ?_ ?_; rotate_left; (focus (rintro w' ⟨cs', o', n', rfl⟩; go_simp; try with_reducible rfl)); simp only [Act.put, List.setIfInBounds_toArray, List.set_cons_zero, List.set_cons_succ]) | (refine wpR_pure (v := ?_) rfl rfl ?_ ?_; rotate_left; (focus (intro w'; go_simp; try with_reducible rfl)); simp only [Act.put, List.setIfInBounds_toArray, List.set_cons_zero, List.set_cons_succ]) | (refine wpR_takeG (v := ?_) rfl rfl rfl rfl rfl ?_ ?_; rotate_left; (focus (rintro w' ⟨cs', o', n', rfl⟩; go_simp; try with_reducible rfl)); simp only [Act.put, List.setIfInBounds_toArray, List.set_cons_zero, List.set_cons_succ]) | (refine wpR_skip rfl rfl rfl rfl rfl rfl ?_; simp only [Act.put, List.setIfInBounds_toArray, List.set_cons_zero, List.set_cons_succ]) | (refine wpR_skipU rfl rfl rfl rfl rfl ?_; simp only [Act.put, List.setIfInBounds_toArray, List.set_cons_zero, List.set_cons_succ]) | (refine wpR_do rfl rfl (fun K hK => ?_)) | (refine wpR_doG rfl rfl rfl rfl rfl (fun K hK => ?_)) | (refine wpR_last rfl rfl (fun K hK => ?_)) | (refine wpR_nil ?_)) | ((with_reducible refine wpR_go ?_ ?_); (focus exact ⟨_, _, _, rfl⟩)) | ((with_reducible refine upon_id ?_); refine upon_fop rfl (by assumption) (by assumption) ?_; intro rr nn hr))
      go_roundw
      case rel =>
        refine ⟨i + 1, _, _, _, by omega, by go_num, rfl, ?_⟩
        have h8 := hcs.set (i := p + q * r) hf
        unfold denseTo at h8 ⊢; unfold writes
        rw [← Hp.out, ← Hq.out]; exact h8
      case measure => simp [intOf]; omega
    · have e : i = r * c := by omega
      subst e
      have hfw : FW (ext (upd V k cs) o2 n2) k (denseL r c ls) := by unfold denseL; rw [HL.out, Nat.min_self]; exact hFV.mk' hcs _ _
      have gu : Grew w (upd V k cs) := (g0.trans gV).upd (by omega) cs
      go_wp2
      refine bodyPost_ret (v := .agg #[.slice (some ⟨k, 0, none⟩) (r * c) (r * c), .int .i64 0, .int .i64 r, .int .i64 c, .int .i64 r]) (by simp [results, Try.results69, go_sem, *]) rfl ?_
      exact ⟨_, rfl, ⟨k, r * c, by simp [denseL, denseTo], by omega, by (repeat (first | (with_reducible assumption) | ((with_reducible refine FW.ext_set ?_ ?_ ?_ _); rotate_left; (focus (simp only [size_setCell', World.size_alloc, size_ext, size_upd]; omega)); (focus (dsimp only; omega))) | ((with_reducible refine FW.setCell_ne ?_ ?_ _); rotate_left; (focus (dsimp only; omega))) | (with_reducible refine FW.ext ?_ _ _) | (with_reducible refine FW.alloc ?_ _))), by simp [denseL, denseTo]; omega⟩, by (show Grew _ _; repeat (first | (with_reducible exact Grew.refl _) | (with_reducible assumption) | (with_reducible refine Grew.ext ?_ _ _) | (with_reducible refine Grew.alloc ?_ _) | ((with_reducible refine Grew.setCell ?_ ?_ _); rotate_left; (focus (dsimp only; first | omega | (simp only [size_ext, World.size_alloc, Array.size_append]; omega)))) | (with_reducible refine Grew.drewN ?_ _) | (with_reducible refine Grew.drew ?_)))⟩
end Go.Proofs.Ytcmggfpcbijcjaa
end
section
/-
  The example of layer 22.
-/
set_option linter.unusedSimpArgs false
set_option linter.unusedVariables false
open Go Go.RowKit Sedge
namespace Go.Proofs.Ytcmggfpcbijcjaa
def E2 : List Nat := [4611686018427387904]
def E1 : List Nat := [4607182418800017408]
def E0 : List Nat := [0]
def E4 : List Nat := [4616189618054758400]
theorem dense_1 (aL : Option Addr) (w : World) (hL : FS w (.slice aL 1 1) E2) :
   Calls Try.prog 69 #[.int .i64 1, .int .i64 1, .slice aL 1 1] w (fun e w' => ∃ v, e = .returned (.agg #[v, .int .i64 0, .int .i64 1, .int .i64 1, .int .i64 1]) ∧ WS w' w.heap.size v E2 ∧ ∃ o n, w' = ext w o n) := by
  have h := dense_any 1 1 aL E2 w hL (by decide) (by decide) (by decide) (by decide) rfl
  have e : denseL 1 1 E2 = E2 := by decide +kernel
  rw [e] at h
  exact h
theorem rest_1 (D VX VY : Value) (w : World) (hD : FS w D E2) (hX : FS w VX E1) (hY : FS w VY E2) :
   Calls Try.prog 94 #[.agg #[D, .int .i64 0, .int .i64 1, .int .i64 1, .int .i64 1], VX, VY] w (fun e w' => ∃ v1 v2, e = .returned (.tuple #[v1, v2, .int .i64 0]) ∧ FS w' v1 E0 ∧ FS w' v2 E4 ∧ ∃ o n, w' = ext w o n) := by
  have h := rest_any ⟨E2, 0, 1, 1, 1⟩ D VX VY E1 E2 w hD hX hY (by decide +kernel) (by simp [MatM.wf, I64]) (by decide) rfl (by decide) rfl rfl
  have e1 : resL ⟨E2, 0, 1, 1, 1⟩ E1 E2 = E0 := by decide +kernel
  have e2 : rebL ⟨E2, 0, 1, 1, 1⟩ E1 E2 = E4 := by decide +kernel
  rw [e1, e2] at h
  refine h.mono fun e w' hh => ?_
  obtain ⟨v1, v2, h1, h2, h3, h4⟩ := hh
  exact ⟨v1, v2, h1, h2.fs (by decide), h3.fs (by decide), h4⟩
set_option maxRecDepth 100000 in
set_option maxHeartbeats 2000000 in
theorem awake22 (w : World) : Calls Try.prog 91 #[] w (fun e w' => e = .returned (.bool true) ∧ ∃ o n, w' = ext w o n) := by
  have h2 : ∀ x ∈ E2, IsF x x := by decide +kernel
  have h1 : ∀ x ∈ E1, IsF x x := by decide +kernel
  have h0 : ∀ x ∈ E0, IsF x x := by decide +kernel
  have h4 : ∀ x ∈ E4, IsF x x := by decide +kernel
  have H2 := hid h2
  have H1 := hid h1
  have H0 := hid h0
  have H4 := hid h4
  have da : decide (E0 = E0) = true := by decide +kernel
  have db : decide (E4 = E4) = true := by decide +kernel
  clear h0 h1 h2 h4
  go_enter Try.func91, Try.ntmps91
  go_wp2_with (first | (go_at_call 69; ((with_reducible refine (dense_1 _ _ ?_).mono ?_); (focus (repeat (first | exact FS.lit E2 (by decide) H2.out 1 _ (by simp only [size_ext, World.size_alloc]) | exact FS.lit E2 (by decide) H2.out 1 _ rfl | refine FS.alloc ?_ _ | refine FS.ext ?_ _ _))); rintro e w1 ⟨v, rfl, ⟨g, cap, rfl, hg, hF, hgl⟩, hw1⟩)) | (go_at_call 94; (with_reducible refine (rest_1 _ _ _ _ ?_ ?_ ?_).mono ?_); (focus (exact ((hF.alloc _).alloc _).fs (by decide) cap)); (focus (repeat (first | exact FS.lit E1 (by decide) H1.out 1 _ (by simp only [size_ext, World.size_alloc]) | exact FS.lit E1 (by decide) H1.out 1 _ rfl | refine FS.alloc ?_ _ | refine FS.ext ?_ _ _))); (focus (repeat (first | exact FS.lit E2 (by decide) H2.out 1 _ (by simp only [size_ext, World.size_alloc]) | exact FS.lit E2 (by decide) H2.out 1 _ rfl | refine FS.alloc ?_ _ | refine FS.ext ?_ _ _))); rintro e w2 ⟨v1, v2, rfl, hv1, hv2, hw2⟩) | (go_at_call 47; ((with_reducible refine (all_any _ _ E0 E0 _ ?_ ?_).mono ?_); (focus (exact hv1.alloc _)); (focus (repeat (first | exact FS.lit E0 (by decide) H0.out 1 _ (by simp only [size_ext, World.size_alloc]) | exact FS.lit E0 (by decide) H0.out 1 _ rfl | refine FS.alloc ?_ _ | refine FS.ext ?_ _ _))); rintro e w3 ⟨rfl, hw3⟩)) | (go_at_call 47; ((with_reducible refine (all_any _ _ E4 E4 _ ?_ ?_).mono ?_); (focus (exact (((hv2.alloc _).grew hw3).alloc _))); (focus (repeat (first | exact FS.lit E4 (by decide) H4.out 1 _ (by simp only [size_ext, World.size_alloc]) | exact FS.lit E4 (by decide) H4.out 1 _ rfl | refine FS.alloc ?_ _ | refine FS.ext ?_ _ _))); rintro e w4 ⟨rfl, hw4⟩)))
  go_ret
  exact ⟨rfl, Grew.trans ((Grew.trans ((Grew.trans (((Grew.trans ((Grew.refl w).alloc _) hw1).alloc _).alloc _) hw2).alloc _) hw3).alloc _) hw4⟩
end Go.Proofs.Ytcmggfpcbijcjaa
end
section
/-
  Places clear of each other; blocks of numbers written out; small facts for the laws.
-/
set_option linter.unusedSimpArgs false
set_option linter.unusedVariables false
open Go Go.RowKit Sedge
namespace Go.Proofs.Ytcmggfpcbijcjaa
theorem meet_no {x : VecM} {m : MatM} (hx : x.right = true) (hm : m.good = true) (h : meetM (rowM x) m true = false) {r i j : Nat} (hr : (r : Int) < x.n) (hi : (i : Int) < m.rows) (hj : (j : Int) < m.cols) : x.place r ≠ m.place i j := by
  intro e
  have f1 : MatM.full (rowM x) = true := by unfold MatM.full; rw [rowM_good hx]; simp [rowM]; omega
  have f2 : MatM.full m = true := by unfold MatM.full; rw [hm]; simp; omega
  have px := VecM.right_place hx hr
  have pm := MatM.good_place hm hi hj
  have hn := VecM.right_n hx
  have hmn := m.good_n hm
  unfold VecM.place MatM.place at e
  have e' : x.off + r * x.inc = m.off + i + j * m.ld := by omega
  have k1 : (r : Int) * x.inc ≤ (x.n - 1) * x.inc := Int.mul_le_mul_of_nonneg_right (by omega) (by omega)
  have k2 : (j : Int) * m.ld ≤ (m.cols - 1) * m.ld := Int.mul_le_mul_of_nonneg_right (by omega) (by omega)
  unfold meetM spanLo spanHi at h
  rw [f1, f2] at h
  simp [rowM] at h
  omega
theorem _root_.Sedge.But.fs_ne {w w' : World} {a g c n : Nat} {ws : List Nat} (hb : But w [g] w') (h : FS w (.slice (some ⟨a, 0, none⟩) n c) ws) (hne : a ≠ g) : FS w' (.slice (some ⟨a, 0, none⟩) n c) ws := by
  obtain ⟨hl, a', cap, hv, h0, hc⟩ := h
  refine ⟨hl, a', cap, hv, h0, fun i hi => ?_⟩
  obtain ⟨blk, o, b, he, h1, h2⟩ := hc i hi
  refine ⟨blk, o, b, he, ?_, h2⟩
  have e : blk = a := by
    have e2 := hv
    simp only [Value.slice.injEq] at e2
    rw [he] at e2
    have e3 := e2.1
    simp only [Option.some.injEq, Addr.mk.injEq] at e3
    exact e3.1.symm
  rw [hb.cell (World.block_lt_of_cell? w _ h1) (by rw [e]; simpa using hne)]; exact h1
theorem meetM_false (x y : MatM) : meetM x y false = false := by unfold meetM; simp
theorem frozen_of_block' {w : World} {p i : Nat} {cs : Array Value} {e : TypeId} (h : w.heap[p]? = some (.cells cs e (0, 0))) : w.frozen? ⟨p, i, none⟩ = false := by
  unfold World.frozen?; simp [h]
theorem great_no {m : MatM} (h : MatM.great m = false) : m.ws.length ≤ 1000 ∧ m.rows ≤ 20 ∧ m.cols ≤ 20 := by simp [MatM.great] at h; omega
theorem long_no' {a : VecM} (h : VecM.long a = false) : a.ws.length ≤ 1000 ∧ a.n ≤ 60 := by simp [VecM.long] at h; omega
theorem FW.lit {w : World} {t : TypeId} (l : List Nat) (h : ∀ x ∈ l, IsF x x) : FW (w.alloc (.cells (l.map (Value.float .f64)).toArray t)) w.heap.size l := by
  refine ⟨(l.map (Value.float .f64)).toArray, t, by show (w.heap.push _)[w.heap.size]? = _; simp, by simp, fun i hi => ⟨l.getD i 0, ?_, ?_⟩⟩
  · simp [List.getD_eq_getElem?_getD, hi]
  · rw [List.getD_eq_getElem?_getD, List.getElem?_eq_getElem hi]
    exact h _ (List.getElem_mem hi)
theorem FW.lit' {w : World} {t : TypeId} (l : List Nat) (h : ∀ x ∈ l, IsF x x) (n : Nat) (hn : n = w.heap.size) : FW (w.alloc (.cells (l.map (Value.float .f64)).toArray t)) n l := by subst hn; exact FW.lit l h
end Go.Proofs.Ytcmggfpcbijcjaa
end
