/-
  Texts laid one behind the other (a claim has at most 60 files): LawBackw, Head.
-/
import Derived.Test.YtcmggfpcbijcjaaRows
import Derived.ProofKit
import Derived.Test.YtcmggfpcbijcjaaQResidBackward1
import Derived.Test.YtcmggfpcbijcjaaQResidBackward2
import Derived.Test.YtcmggfpcbijcjaaQResidBackward3
import Derived.Test.YtcmggfpcbijcjaaQResidBackward4
import Derived.Test.YtcmggfpcbijcjaaQResidBackward5
import Derived.Test.YtcmggfpcbijcjaaQResidBackward6
import Derived.Test.YtcmggfpcbijcjaaQResidBackward7
import Derived.Test.YtcmggfpcbijcjaaQResidBackward8
import Derived.Test.YtcmggfpcbijcjaaQResidBackward9
import Derived.Test.YtcmggfpcbijcjaaQResidBackward10
section
/-
  The walk of the law ResidBackward (layer 22).
-/
set_option linter.unusedSimpArgs false
set_option linter.unusedVariables false
open Go Go.RowKit Sedge
namespace Go.Proofs.Ytcmggfpcbijcjaa
theorem ge_eq {r X : Nat} (hr : IsF r X) : (FloatKind.f64.format.order r 0 == some .gt || FloatKind.f64.format.order r 0 == some .eq) = (fgt X 0 || feq X 0) := by unfold fgt feq; rw [← hr.order isF_zero]; rfl
theorem ge_zero {x : Nat} (h : fin x = true) (h0 : 0 ≤ val x) : (fgt x 0 || feq x 0) = true := by
  obtain ⟨a, b, _⟩ := order_val h zero_fin.1
  rw [zero_fin.2] at a b
  rw [Bool.or_eq_true]
  by_cases h1 : 0 < val x
  · exact .inl (a.2 h1)
  · exact .inr (b.2 (by grind))
theorem le_eq1 {r X : Nat} (hr : IsF r X) : (FloatKind.f64.format.order r 4607182418800017408 == some .lt || FloatKind.f64.format.order r 4607182418800017408 == some .eq) = (flt X 4607182418800017408 || feq X 4607182418800017408) := by unfold flt feq; rw [← hr.order isF_one]; rfl
theorem le_one {x : Nat} (h : fin x = true) (h0 : val x ≤ 1) : (flt x 4607182418800017408 || feq x 4607182418800017408) = true := by
  obtain ⟨_, b, a⟩ := order_val h one_fin.1
  rw [one_fin.2] at a b
  rw [Bool.or_eq_true]
  by_cases h1 : val x < 1
  · exact .inl (a.2 h1)
  · exact .inr (b.2 (by grind))
theorem tab_fin {m : MatM} (h : finL m.tab = true) {n : Nat} (hn : m.rows.toNat = n) (hc : m.cols.toNat = n) {i j : Nat} (hi : i < n) (hj : j < n) (hlt : m.num i j < 2 ^ 64) : fin (m.num i j) = true := by
  have h1 := tab_get (m := m) (i := i) (j := j) (by omega) (by omega)
  have hl : i * m.cols.toNat + j < m.tab.length := by
    rw [MatM.tab_length, hn, hc]
    have : (i + 1) * n ≤ n * n := Nat.mul_le_mul_right n hi
    rw [Nat.add_mul] at this
    omega
  have h2 := finL_at h hl
  rw [h1] at h2
  rw [fin_finB hlt]; exact h2
set_option maxRecDepth 100000 in
set_option maxHeartbeats 8000000 in
theorem residBackward_any (m : MatM) (D VX : Value) (X : List Nat) (VY : Value) (Y : List Nat) (w : World) (hD : FS w D m.ws) (hwf : m.wf) (hX : FS w VX X) (hY : FS w VY Y) :
    Calls Try.prog 20 #[.agg #[D, .int .i64 m.off, .int .i64 m.rows, .int .i64 m.cols, .int .i64 m.ld], VX, VY] w (fun e w' => e = .returned (.bool true) ∧ ∃ o n, w' = ext w o n) := by
  obtain ⟨aX, cX, rfl⟩ := hX.shape
  obtain ⟨aY, cY, rfl⟩ := hY.shape
  have hgr : ∀ w', Grew w w' → Calls Try.prog 42 #[.agg #[D, .int .i64 m.off, .int .i64 m.rows, .int .i64 m.cols, .int .i64 m.ld]] w' (fun e w2 => e = .returned (.bool (MatM.great m)) ∧ ∃ o n, w2 = ext w' o n) := fun w' g => great_any m D w' (hD.grew g)
  have hgo : ∀ w', Grew w w' → Calls Try.prog 46 #[.agg #[D, .int .i64 m.off, .int .i64 m.rows, .int .i64 m.cols, .int .i64 m.ld]] w' (fun e w2 => e = .returned (.bool m.good) ∧ ∃ o n, w2 = ext w' o n) := fun w' g => rgood_any m D w' (hD.grew g) hwf
  have HDm := hid hD
  have HXm := hid hX
  have HYm := hid hY
  have Hwf := hid hwf
  clear hD hX hY hwf
  cases hg : MatM.great m
  · rw [hg] at hgr
    obtain ⟨hl1, hl2, hl3⟩ := great_no hg
    by_cases r1 : 16 < m.rows
    · have d1 : decide (16 < m.rows) = true := by simpa using r1
      clear hg
      go_enter Try.func20, Try.ntmps20
      refine seq_stop ?_
      go_wp2
      refine stop_go (fun W hW => ?_)
      have s1 : w.heap.size < W.heap.size := by rw [hW]; simp only [World.size_alloc]; omega
      have b1 : ∀ i, W.cell? ⟨w.heap.size, i, none⟩ = (#[D, .int .i64 m.off, .int .i64 m.rows, .int .i64 m.cols, .int .i64 m.ld] : Array Value)[i]? := by intro i; rw [hW]; go_simp
      have g0 : Grew w W := by rw [hW]; exact (Grew.refl _).alloc _
      clear hW
      go_wp2_with (first | (go_at_call 91; ((with_reducible refine (awake22 _).mono ?_); rintro e w1 ⟨rfl, o1, n1, rfl⟩)) | (go_at_call 42; ((with_reducible refine (hgr _ (Grew.trans g0 (by (show Grew _ _; repeat (first | (with_reducible exact Grew.refl _) | (with_reducible assumption) | (with_reducible exact Grew.same_o) | (with_reducible exact Grew.app_o) | (with_reducible refine Grew.ext ?_ _ _) | (with_reducible refine Grew.alloc ?_ _) | ((with_reducible refine Grew.setCell ?_ ?_ _); rotate_left; (focus (dsimp only; first | omega | (simp only [size_ext, World.size_alloc, Array.size_append]; omega)))) | (with_reducible refine Grew.drewN ?_ _) | (with_reducible refine Grew.drew ?_)))))).mono ?_); rintro e w1 ⟨rfl, o2, n2, rfl⟩)) | (go_at_call 46; ((with_reducible refine (hgo _ (Grew.trans g0 (by (show Grew _ _; repeat (first | (with_reducible exact Grew.refl _) | (with_reducible assumption) | (with_reducible exact Grew.same_o) | (with_reducible exact Grew.app_o) | (with_reducible refine Grew.ext ?_ _ _) | (with_reducible refine Grew.alloc ?_ _) | ((with_reducible refine Grew.setCell ?_ ?_ _); rotate_left; (focus (dsimp only; first | omega | (simp only [size_ext, World.size_alloc, Array.size_append]; omega)))) | (with_reducible refine Grew.drewN ?_ _) | (with_reducible refine Grew.drew ?_)))))).mono ?_); rintro e w1 ⟨rfl, o3, n3, rfl⟩)))
      go_ret
      exact ⟨rfl, Grew.trans g0 (by (show Grew _ _; repeat (first | (with_reducible exact Grew.refl _) | (with_reducible assumption) | (with_reducible exact Grew.same_o) | (with_reducible exact Grew.app_o) | (with_reducible refine Grew.ext ?_ _ _) | (with_reducible refine Grew.alloc ?_ _) | ((with_reducible refine Grew.setCell ?_ ?_ _); rotate_left; (focus (dsimp only; first | omega | (simp only [size_ext, World.size_alloc, Array.size_append]; omega)))) | (with_reducible refine Grew.drewN ?_ _) | (with_reducible refine Grew.drew ?_))))⟩
    · have d1 : decide (16 < m.rows) = false := by simpa using r1
      cases hgd : m.good
      · rw [hgd] at hgo
        clear hg hgd
        go_enter Try.func20, Try.ntmps20
        refine seq_stop ?_
        go_wp2
        refine stop_go (fun W hW => ?_)
        have s1 : w.heap.size < W.heap.size := by rw [hW]; simp only [World.size_alloc]; omega
        have b1 : ∀ i, W.cell? ⟨w.heap.size, i, none⟩ = (#[D, .int .i64 m.off, .int .i64 m.rows, .int .i64 m.cols, .int .i64 m.ld] : Array Value)[i]? := by intro i; rw [hW]; go_simp
        have g0 : Grew w W := by rw [hW]; exact (Grew.refl _).alloc _
        clear hW
        go_wp2_with (first | (go_at_call 91; ((with_reducible refine (awake22 _).mono ?_); rintro e w1 ⟨rfl, o1, n1, rfl⟩)) | (go_at_call 42; ((with_reducible refine (hgr _ (Grew.trans g0 (by (show Grew _ _; repeat (first | (with_reducible exact Grew.refl _) | (with_reducible assumption) | (with_reducible exact Grew.same_o) | (with_reducible exact Grew.app_o) | (with_reducible refine Grew.ext ?_ _ _) | (with_reducible refine Grew.alloc ?_ _) | ((with_reducible refine Grew.setCell ?_ ?_ _); rotate_left; (focus (dsimp only; first | omega | (simp only [size_ext, World.size_alloc, Array.size_append]; omega)))) | (with_reducible refine Grew.drewN ?_ _) | (with_reducible refine Grew.drew ?_)))))).mono ?_); rintro e w1 ⟨rfl, o2, n2, rfl⟩)) | (go_at_call 46; ((with_reducible refine (hgo _ (Grew.trans g0 (by (show Grew _ _; repeat (first | (with_reducible exact Grew.refl _) | (with_reducible assumption) | (with_reducible exact Grew.same_o) | (with_reducible exact Grew.app_o) | (with_reducible refine Grew.ext ?_ _ _) | (with_reducible refine Grew.alloc ?_ _) | ((with_reducible refine Grew.setCell ?_ ?_ _); rotate_left; (focus (dsimp only; first | omega | (simp only [size_ext, World.size_alloc, Array.size_append]; omega)))) | (with_reducible refine Grew.drewN ?_ _) | (with_reducible refine Grew.drew ?_)))))).mono ?_); rintro e w1 ⟨rfl, o3, n3, rfl⟩)))
        go_ret
        exact ⟨rfl, Grew.trans g0 (by (show Grew _ _; repeat (first | (with_reducible exact Grew.refl _) | (with_reducible assumption) | (with_reducible exact Grew.same_o) | (with_reducible exact Grew.app_o) | (with_reducible refine Grew.ext ?_ _ _) | (with_reducible refine Grew.alloc ?_ _) | ((with_reducible refine Grew.setCell ?_ ?_ _); rotate_left; (focus (dsimp only; first | omega | (simp only [size_ext, World.size_alloc, Array.size_append]; omega)))) | (with_reducible refine Grew.drewN ?_ _) | (with_reducible refine Grew.drew ?_))))⟩
      · rw [hgd] at hgo
        by_cases r2 : m.rows = m.cols
        · have d2 : (m.rows != m.cols) = false := by simpa using r2
          by_cases r3 : (X.length : Int) = m.rows
          · have d3 : ((X.length : Int) != m.rows) = false := by simpa using r3
            by_cases r4 : (Y.length : Int) = m.rows
            · have d4 : ((Y.length : Int) != m.rows) = false := by simpa using r4
              obtain ⟨n, hn⟩ : ∃ n : Nat, m.rows = n := ⟨m.rows.toNat, by have := MatM.good_n hgd; omega⟩
              have hnt : m.rows.toNat = n := by omega
              have hct : m.cols.toNat = n := by omega
              have hn16 : n ≤ 16 := by omega
              obtain ⟨κ, hκ⟩ : ∃ κ, κ = berF m X Y := ⟨_, rfl⟩
              have hBer : ∀ w', Grew w w' → Calls Try.prog 105 #[.agg #[D, .int .i64 m.off, .int .i64 m.rows, .int .i64 m.cols, .int .i64 m.ld], .slice aX X.length cX, .slice aY Y.length cY] w' (fun e w2 => ∃ q, e = .returned (.tuple #[.float .f64 q, .int .i64 0]) ∧ IsF q κ ∧ ∃ o n, w2 = ext w' o n) := fun w' g => by
                rw [hκ]
                exact berr_any m D _ _ X Y w' (HDm.out.grew g) (HXm.out.grew g) (HYm.out.grew g) hgd Hwf.out (by omega) r2 (by omega) r3 r4
              have hOf : ∀ w', Grew w w' → Calls Try.prog 48 #[.agg #[D, .int .i64 m.off, .int .i64 m.rows, .int .i64 m.cols, .int .i64 m.ld]] w' (fun e w2 => ∃ a c, e = .returned (.agg #[.int .i64 m.rows, .int .i64 m.cols, .slice a m.tab.length c]) ∧ FS w2 (.slice a m.tab.length c) m.tab ∧ ∃ o n, w2 = ext w' o n) := fun w' g => by
                refine (rof_any m D w' (HDm.out.grew g) hgd (by omega) (by omega) (by omega) Hwf.out).mono fun e w2 hh => ?_
                obtain ⟨v, e1, e2, e3⟩ := hh
                obtain ⟨a, c, rfl⟩ := e2.fs.shape
                exact ⟨a, c, e1, e2.fs, e3⟩
              have hml : m.tab.length = n * n := by rw [MatM.tab_length, hnt, hct]
              have hLaw : finL m.tab = true → finL X = true → finL Y = true → isNan κ = false → fin κ = true ∧ 0 ≤ val κ ∧ val κ ≤ 1 ∧ ∀ i, i < n → (exS (val (Y.getD i 0)) (prT n m.tab X i) n).abs ≤ val κ * exB (val (Y.getD i 0)) (prT n m.tab X i) n := fun f1 f2 f3 hk => by
                rw [hκ] at hk ⊢
                refine berr_law m X Y (FS_lt HDm.out) (FS_lt HXm.out) (FS_lt HYm.out) hnt hct hn16 (by omega) (fun i j hi hj => tab_fin f1 hnt hct hi hj (FS_lt HDm.out _)) (fun j hj => ?_) (fun j hj => ?_) hk
                · rw [fin_finB (FS_lt HXm.out j)]; exact finL_at f2 (by omega)
                · rw [fin_finB (FS_lt HYm.out j)]; exact finL_at f3 (by omega)
              have hBack : ∀ (a : Option Addr) (c q : Nat) w', Grew w w' → FS w' (.slice a m.tab.length c) m.tab → IsF q κ → (∀ i, i < n → (exS (val (Y.getD i 0)) (prT n m.tab X i) n).abs ≤ val κ * exB (val (Y.getD i 0)) (prT n m.tab X i) n) →
                  Calls Try.prog 108 #[.agg #[.int .i64 m.rows, .int .i64 m.cols, .slice a m.tab.length c], .slice aX X.length cX, .slice aY Y.length cY, .float .f64 q] w' (fun e w2 => e = .returned (.bool true) ∧ ∃ o n, w2 = ext w' o n) := fun a c q w' g hA hq hla => by
                have h := backward_any n n _ _ _ m.tab X Y q κ w' hA (HXm.out.grew g) (HYm.out.grew g) hq (by omega) (by omega) (fun i j hi hj => by
                  rw [hml]
                  have : (i + 1) * n ≤ n * n := Nat.mul_le_mul_right n hi
                  rw [Nat.add_mul] at this
                  omega) (by omega) (by omega) (by omega) (by omega) hla
                rw [hn, ← r2, hn]
                exact h
              obtain ⟨lT, hlT⟩ : ∃ lT, lT = m.tab.length := ⟨_, rfl⟩
              obtain ⟨T, hT⟩ : ∃ T, T = m.tab := ⟨_, rfl⟩
              rw [← hlT] at hOf hBack
              rw [← hT] at hOf hBack hLaw
              have HLAW := hid hLaw
              have HBACK := hid hBack
              clear hκ hg hgd r1 r2 r3 r4 hnt hct hn hml hLaw hBack hlT hT
              go_enter Try.func20, Try.ntmps20
              refine seq_stop ?_
              go_wp2
              refine stop_go (fun W hW => ?_)
              have s1 : w.heap.size < W.heap.size := by rw [hW]; simp only [World.size_alloc]; omega
              have b1 : ∀ i, W.cell? ⟨w.heap.size, i, none⟩ = (#[D, .int .i64 m.off, .int .i64 m.rows, .int .i64 m.cols, .int .i64 m.ld] : Array Value)[i]? := by intro i; rw [hW]; go_simp
              have g0 : Grew w W := by rw [hW]; exact (Grew.refl _).alloc _
              clear hW
              go_upto_region 6 with (first | (go_at_call 91; ((with_reducible refine (awake22 _).mono ?_); rintro e w1 ⟨rfl, o1, n1, rfl⟩)) | (go_at_call 42; ((with_reducible refine (hgr _ (Grew.trans g0 (by (show Grew _ _; repeat (first | (with_reducible exact Grew.refl _) | (with_reducible assumption) | (with_reducible exact Grew.same_o) | (with_reducible exact Grew.app_o) | (with_reducible refine Grew.ext ?_ _ _) | (with_reducible refine Grew.alloc ?_ _) | ((with_reducible refine Grew.setCell ?_ ?_ _); rotate_left; (focus (dsimp only; first | omega | (simp only [size_ext, World.size_alloc, Array.size_append]; omega)))) | (with_reducible refine Grew.drewN ?_ _) | (with_reducible refine Grew.drew ?_)))))).mono ?_); rintro e w1 ⟨rfl, o2, n2, rfl⟩)) | (go_at_call 46; ((with_reducible refine (hgo _ (Grew.trans g0 (by (show Grew _ _; repeat (first | (with_reducible exact Grew.refl _) | (with_reducible assumption) | (with_reducible exact Grew.same_o) | (with_reducible exact Grew.app_o) | (with_reducible refine Grew.ext ?_ _ _) | (with_reducible refine Grew.alloc ?_ _) | ((with_reducible refine Grew.setCell ?_ ?_ _); rotate_left; (focus (dsimp only; first | omega | (simp only [size_ext, World.size_alloc, Array.size_append]; omega)))) | (with_reducible refine Grew.drewN ?_ _) | (with_reducible refine Grew.drew ?_)))))).mono ?_); rintro e w1 ⟨rfl, o3, n3, rfl⟩)) | (go_at_call 48; ((with_reducible refine (hOf _ (Grew.trans g0 (by (show Grew _ _; repeat (first | (with_reducible exact Grew.refl _) | (with_reducible assumption) | (with_reducible exact Grew.same_o) | (with_reducible exact Grew.app_o) | (with_reducible refine Grew.ext ?_ _ _) | (with_reducible refine Grew.alloc ?_ _) | ((with_reducible refine Grew.setCell ?_ ?_ _); rotate_left; (focus (dsimp only; first | omega | (simp only [size_ext, World.size_alloc, Array.size_append]; omega)))) | (with_reducible refine Grew.drewN ?_ _) | (with_reducible refine Grew.drew ?_)))))).mono ?_); rintro e w1 ⟨aT, cT, rfl, hT1, o4, n4, rfl⟩)))
              refine name_any (fun V hV => ?_)
              simp only [ext_ext] at hT1
              obtain ⟨k7, hk7⟩ : ∃ k7, k7 = W.heap.size + (o1.size + (o2.size + (o3.size + o4.size))) := ⟨_, rfl⟩
              have gV : Grew W V := by rw [← hV]; (show Grew _ _; (try simp only [← Array.append_assoc]); repeat (first | (with_reducible exact Grew.same_o) | (with_reducible exact Grew.refl _) | (with_reducible assumption) | (with_reducible refine Grew.alloc ?_ _) | (with_reducible refine Grew.app_r ?_) | ((with_reducible refine Grew.setCell ?_ ?_ _); rotate_left; (focus (dsimp only; first | omega | (simp only [size_ext, World.size_alloc, Array.size_append]; omega)))) | (with_reducible refine Grew.ext ?_ _ _) | (with_reducible refine Grew.drewN ?_ _) | (with_reducible refine Grew.drew ?_)))
              have c7 : ∀ i, V.cell? ⟨k7, i, none⟩ = (#[.int .i64 m.rows, .int .i64 m.cols, .slice aT lT cT] : Array Value)[i]? := by subst hV; rw [hk7]; intro i; go_simp
              have z7 : k7 < V.heap.size := by rw [← hV, hk7]; simp only [World.size_alloc, size_ext, Array.size_append]; omega
              have hTV : FS V (.slice aT lT cT) T := hT1.grew (by rw [← hV]; (show Grew _ _; (try simp only [← Array.append_assoc]); repeat (first | (with_reducible exact Grew.same_o) | (with_reducible exact Grew.refl _) | (with_reducible assumption) | (with_reducible refine Grew.alloc ?_ _) | (with_reducible refine Grew.app_r ?_) | ((with_reducible refine Grew.setCell ?_ ?_ _); rotate_left; (focus (dsimp only; first | omega | (simp only [size_ext, World.size_alloc, Array.size_append]; omega)))) | (with_reducible refine Grew.ext ?_ _ _) | (with_reducible refine Grew.drewN ?_ _) | (with_reducible refine Grew.drew ?_))))
              have c3 : ∀ i, V.cell? ⟨w.heap.size, i, none⟩ = (#[D, .int .i64 m.off, .int .i64 m.rows, .int .i64 m.cols, .int .i64 m.ld] : Array Value)[i]? := fun i => (gV.cell s1).trans (b1 i)
              have z3 : w.heap.size < V.heap.size := Nat.lt_of_lt_of_le s1 gV.below.size
              have gw : Grew w V := Grew.trans g0 gV
              simp only [← hk7]
              clear hV hk7 gV b1 s1 hT1 hOf g0
              have hfX : ∀ w', Grew w w' → Calls Try.prog 25 #[.slice aX X.length cX] w' (fun e w2 => e = .returned (.bool (finL X)) ∧ w' = w2) := fun w' g => finite_any _ X w' (HXm.out.grew g)
              have hfY : ∀ w', Grew w w' → Calls Try.prog 25 #[.slice aY Y.length cY] w' (fun e w2 => e = .returned (.bool (finL Y)) ∧ w' = w2) := fun w' g => finite_any _ Y w' (HYm.out.grew g)
              go_wp2_with (first | (go_at_call 105; ((with_reducible refine (hBer _ (Grew.trans gw (by (show Grew _ _; (try simp only [← Array.append_assoc]); repeat (first | (with_reducible exact Grew.same_o) | (with_reducible exact Grew.refl _) | (with_reducible assumption) | (with_reducible refine Grew.alloc ?_ _) | (with_reducible refine Grew.app_r ?_) | ((with_reducible refine Grew.setCell ?_ ?_ _); rotate_left; (focus (dsimp only; first | omega | (simp only [size_ext, World.size_alloc, Array.size_append]; omega)))) | (with_reducible refine Grew.ext ?_ _ _) | (with_reducible refine Grew.drewN ?_ _) | (with_reducible refine Grew.drew ?_)))))).mono ?_); rintro e w1 ⟨q, rfl, hq, o1, n1, rfl⟩)))
              refine name_call (fun U hU => ?_)
              have gU : Grew V U := by rw [← hU]; (show Grew _ _; (try simp only [← Array.append_assoc]); repeat (first | (with_reducible exact Grew.same_o) | (with_reducible exact Grew.refl _) | (with_reducible assumption) | (with_reducible refine Grew.alloc ?_ _) | (with_reducible refine Grew.app_r ?_) | ((with_reducible refine Grew.setCell ?_ ?_ _); rotate_left; (focus (dsimp only; first | omega | (simp only [size_ext, World.size_alloc, Array.size_append]; omega)))) | (with_reducible refine Grew.ext ?_ _ _) | (with_reducible refine Grew.drewN ?_ _) | (with_reducible refine Grew.drew ?_)))
              have c7' : ∀ i, U.cell? ⟨k7, i, none⟩ = (#[.int .i64 m.rows, .int .i64 m.cols, .slice aT lT cT] : Array Value)[i]? := fun i => (gU.cell z7).trans (c7 i)
              have z7' : k7 < U.heap.size := Nat.lt_of_lt_of_le z7 gU.below.size
              have gwU : Grew w U := Grew.trans gw gU
              have hTU : FS U (.slice aT lT cT) T := hTV.grew gU
              have hfT' : ∀ w', Grew U w' → Calls Try.prog 25 #[.slice aT lT cT] w' (fun e w2 => e = .returned (.bool (finL T)) ∧ w' = w2) := fun w' g => finite_any _ T w' (hTU.grew g)
              have hnq : (FloatKind.f64.format.order q q != some .eq) = isNan κ := by rw [← hq.nan]; exact order_self q
              have HQ := hid hq
              clear hU gU c7 c3 z7 z3 hTV gw hgr hgo hBer hq
              cases fT : finL T
              · rw [fT] at hfT'
                clear fT
                go_wp2_with (first | (go_at_call 91; ((with_reducible refine (awake22 _).mono ?_); rintro e w1 ⟨rfl, o1, n1, rfl⟩)) | (go_at_call 25; ((with_reducible refine (hfT' _ (by (show Grew _ _; (try simp only [← Array.append_assoc]); repeat (first | (with_reducible exact Grew.same_o) | (with_reducible exact Grew.refl _) | (with_reducible assumption) | (with_reducible refine Grew.alloc ?_ _) | (with_reducible refine Grew.app_r ?_) | ((with_reducible refine Grew.setCell ?_ ?_ _); rotate_left; (focus (dsimp only; first | omega | (simp only [size_ext, World.size_alloc, Array.size_append]; omega)))) | (with_reducible refine Grew.ext ?_ _ _) | (with_reducible refine Grew.drewN ?_ _) | (with_reducible refine Grew.drew ?_))))).mono ?_); rintro e w1 ⟨rfl, rfl⟩)) | (go_at_call 25; ((with_reducible refine (hfX _ (Grew.trans gwU (by (show Grew _ _; (try simp only [← Array.append_assoc]); repeat (first | (with_reducible exact Grew.same_o) | (with_reducible exact Grew.refl _) | (with_reducible assumption) | (with_reducible refine Grew.alloc ?_ _) | (with_reducible refine Grew.app_r ?_) | ((with_reducible refine Grew.setCell ?_ ?_ _); rotate_left; (focus (dsimp only; first | omega | (simp only [size_ext, World.size_alloc, Array.size_append]; omega)))) | (with_reducible refine Grew.ext ?_ _ _) | (with_reducible refine Grew.drewN ?_ _) | (with_reducible refine Grew.drew ?_)))))).mono ?_); rintro e w1 ⟨rfl, rfl⟩)) | (go_at_call 25; ((with_reducible refine (hfY _ (Grew.trans gwU (by (show Grew _ _; (try simp only [← Array.append_assoc]); repeat (first | (with_reducible exact Grew.same_o) | (with_reducible exact Grew.refl _) | (with_reducible assumption) | (with_reducible refine Grew.alloc ?_ _) | (with_reducible refine Grew.app_r ?_) | ((with_reducible refine Grew.setCell ?_ ?_ _); rotate_left; (focus (dsimp only; first | omega | (simp only [size_ext, World.size_alloc, Array.size_append]; omega)))) | (with_reducible refine Grew.ext ?_ _ _) | (with_reducible refine Grew.drewN ?_ _) | (with_reducible refine Grew.drew ?_)))))).mono ?_); rintro e w1 ⟨rfl, rfl⟩)))
                go_ret
                exact ⟨rfl, Grew.trans gwU (by (show Grew _ _; (try simp only [← Array.append_assoc]); repeat (first | (with_reducible exact Grew.same_o) | (with_reducible exact Grew.refl _) | (with_reducible assumption) | (with_reducible refine Grew.alloc ?_ _) | (with_reducible refine Grew.app_r ?_) | ((with_reducible refine Grew.setCell ?_ ?_ _); rotate_left; (focus (dsimp only; first | omega | (simp only [size_ext, World.size_alloc, Array.size_append]; omega)))) | (with_reducible refine Grew.ext ?_ _ _) | (with_reducible refine Grew.drewN ?_ _) | (with_reducible refine Grew.drew ?_))))⟩
              · rw [fT] at hfT'
                cases fX : finL X
                · rw [fX] at hfX
                  clear fT fX
                  go_wp2_with (first | (go_at_call 91; ((with_reducible refine (awake22 _).mono ?_); rintro e w1 ⟨rfl, o1, n1, rfl⟩)) | (go_at_call 25; ((with_reducible refine (hfT' _ (by (show Grew _ _; (try simp only [← Array.append_assoc]); repeat (first | (with_reducible exact Grew.same_o) | (with_reducible exact Grew.refl _) | (with_reducible assumption) | (with_reducible refine Grew.alloc ?_ _) | (with_reducible refine Grew.app_r ?_) | ((with_reducible refine Grew.setCell ?_ ?_ _); rotate_left; (focus (dsimp only; first | omega | (simp only [size_ext, World.size_alloc, Array.size_append]; omega)))) | (with_reducible refine Grew.ext ?_ _ _) | (with_reducible refine Grew.drewN ?_ _) | (with_reducible refine Grew.drew ?_))))).mono ?_); rintro e w1 ⟨rfl, rfl⟩)) | (go_at_call 25; ((with_reducible refine (hfX _ (Grew.trans gwU (by (show Grew _ _; (try simp only [← Array.append_assoc]); repeat (first | (with_reducible exact Grew.same_o) | (with_reducible exact Grew.refl _) | (with_reducible assumption) | (with_reducible refine Grew.alloc ?_ _) | (with_reducible refine Grew.app_r ?_) | ((with_reducible refine Grew.setCell ?_ ?_ _); rotate_left; (focus (dsimp only; first | omega | (simp only [size_ext, World.size_alloc, Array.size_append]; omega)))) | (with_reducible refine Grew.ext ?_ _ _) | (with_reducible refine Grew.drewN ?_ _) | (with_reducible refine Grew.drew ?_)))))).mono ?_); rintro e w1 ⟨rfl, rfl⟩)) | (go_at_call 25; ((with_reducible refine (hfY _ (Grew.trans gwU (by (show Grew _ _; (try simp only [← Array.append_assoc]); repeat (first | (with_reducible exact Grew.same_o) | (with_reducible exact Grew.refl _) | (with_reducible assumption) | (with_reducible refine Grew.alloc ?_ _) | (with_reducible refine Grew.app_r ?_) | ((with_reducible refine Grew.setCell ?_ ?_ _); rotate_left; (focus (dsimp only; first | omega | (simp only [size_ext, World.size_alloc, Array.size_append]; omega)))) | (with_reducible refine Grew.ext ?_ _ _) | (with_reducible refine Grew.drewN ?_ _) | (with_reducible refine Grew.drew ?_)))))).mono ?_); rintro e w1 ⟨rfl, rfl⟩)))
                  go_ret
                  exact ⟨rfl, Grew.trans gwU (by (show Grew _ _; (try simp only [← Array.append_assoc]); repeat (first | (with_reducible exact Grew.same_o) | (with_reducible exact Grew.refl _) | (with_reducible assumption) | (with_reducible refine Grew.alloc ?_ _) | (with_reducible refine Grew.app_r ?_) | ((with_reducible refine Grew.setCell ?_ ?_ _); rotate_left; (focus (dsimp only; first | omega | (simp only [size_ext, World.size_alloc, Array.size_append]; omega)))) | (with_reducible refine Grew.ext ?_ _ _) | (with_reducible refine Grew.drewN ?_ _) | (with_reducible refine Grew.drew ?_))))⟩
                · rw [fX] at hfX
                  cases fY : finL Y
                  · rw [fY] at hfY
                    clear fT fX fY
                    go_wp2_with (first | (go_at_call 91; ((with_reducible refine (awake22 _).mono ?_); rintro e w1 ⟨rfl, o1, n1, rfl⟩)) | (go_at_call 25; ((with_reducible refine (hfT' _ (by (show Grew _ _; (try simp only [← Array.append_assoc]); repeat (first | (with_reducible exact Grew.same_o) | (with_reducible exact Grew.refl _) | (with_reducible assumption) | (with_reducible refine Grew.alloc ?_ _) | (with_reducible refine Grew.app_r ?_) | ((with_reducible refine Grew.setCell ?_ ?_ _); rotate_left; (focus (dsimp only; first | omega | (simp only [size_ext, World.size_alloc, Array.size_append]; omega)))) | (with_reducible refine Grew.ext ?_ _ _) | (with_reducible refine Grew.drewN ?_ _) | (with_reducible refine Grew.drew ?_))))).mono ?_); rintro e w1 ⟨rfl, rfl⟩)) | (go_at_call 25; ((with_reducible refine (hfX _ (Grew.trans gwU (by (show Grew _ _; (try simp only [← Array.append_assoc]); repeat (first | (with_reducible exact Grew.same_o) | (with_reducible exact Grew.refl _) | (with_reducible assumption) | (with_reducible refine Grew.alloc ?_ _) | (with_reducible refine Grew.app_r ?_) | ((with_reducible refine Grew.setCell ?_ ?_ _); rotate_left; (focus (dsimp only; first | omega | (simp only [size_ext, World.size_alloc, Array.size_append]; omega)))) | (with_reducible refine Grew.ext ?_ _ _) | (with_reducible refine Grew.drewN ?_ _) | (with_reducible refine Grew.drew ?_)))))).mono ?_); rintro e w1 ⟨rfl, rfl⟩)) | (go_at_call 25; ((with_reducible refine (hfY _ (Grew.trans gwU (by (show Grew _ _; (try simp only [← Array.append_assoc]); repeat (first | (with_reducible exact Grew.same_o) | (with_reducible exact Grew.refl _) | (with_reducible assumption) | (with_reducible refine Grew.alloc ?_ _) | (with_reducible refine Grew.app_r ?_) | ((with_reducible refine Grew.setCell ?_ ?_ _); rotate_left; (focus (dsimp only; first | omega | (simp only [size_ext, World.size_alloc, Array.size_append]; omega)))) | (with_reducible refine Grew.ext ?_ _ _) | (with_reducible refine Grew.drewN ?_ _) | (with_reducible refine Grew.drew ?_)))))).mono ?_); rintro e w1 ⟨rfl, rfl⟩)))
                    go_ret
                    exact ⟨rfl, Grew.trans gwU (by (show Grew _ _; (try simp only [← Array.append_assoc]); repeat (first | (with_reducible exact Grew.same_o) | (with_reducible exact Grew.refl _) | (with_reducible assumption) | (with_reducible refine Grew.alloc ?_ _) | (with_reducible refine Grew.app_r ?_) | ((with_reducible refine Grew.setCell ?_ ?_ _); rotate_left; (focus (dsimp only; first | omega | (simp only [size_ext, World.size_alloc, Array.size_append]; omega)))) | (with_reducible refine Grew.ext ?_ _ _) | (with_reducible refine Grew.drewN ?_ _) | (with_reducible refine Grew.drew ?_))))⟩
                  · rw [fY] at hfY
                    cases hk : isNan κ
                    · rw [hk] at hnq
                      obtain ⟨q1, q2, q3, q4⟩ := HLAW.out fT fX fY hk
                      have hback := fun w' g => HBACK.out aT cT q w' (Grew.trans gwU g) (hTU.grew g) HQ.out q4
                      have e1 : (FloatKind.f64.format.order q 0 == some .gt || FloatKind.f64.format.order q 0 == some .eq) = true := by rw [ge_eq HQ.out]; exact ge_zero q1 q2
                      have e2 : (FloatKind.f64.format.order q 4607182418800017408 == some .lt || FloatKind.f64.format.order q 4607182418800017408 == some .eq) = true := by rw [le_eq1 HQ.out]; exact le_one q1 q3
                      clear fT fX fY hk q1 q2 q3 q4
                      go_wp2_with (first | (go_at_call 91; ((with_reducible refine (awake22 _).mono ?_); rintro e w1 ⟨rfl, o1, n1, rfl⟩)) | (go_at_call 25; ((with_reducible refine (hfT' _ (by (show Grew _ _; (try simp only [← Array.append_assoc]); repeat (first | (with_reducible exact Grew.same_o) | (with_reducible exact Grew.refl _) | (with_reducible assumption) | (with_reducible refine Grew.alloc ?_ _) | (with_reducible refine Grew.app_r ?_) | ((with_reducible refine Grew.setCell ?_ ?_ _); rotate_left; (focus (dsimp only; first | omega | (simp only [size_ext, World.size_alloc, Array.size_append]; omega)))) | (with_reducible refine Grew.ext ?_ _ _) | (with_reducible refine Grew.drewN ?_ _) | (with_reducible refine Grew.drew ?_))))).mono ?_); rintro e w1 ⟨rfl, rfl⟩)) | (go_at_call 25; ((with_reducible refine (hfX _ (Grew.trans gwU (by (show Grew _ _; (try simp only [← Array.append_assoc]); repeat (first | (with_reducible exact Grew.same_o) | (with_reducible exact Grew.refl _) | (with_reducible assumption) | (with_reducible refine Grew.alloc ?_ _) | (with_reducible refine Grew.app_r ?_) | ((with_reducible refine Grew.setCell ?_ ?_ _); rotate_left; (focus (dsimp only; first | omega | (simp only [size_ext, World.size_alloc, Array.size_append]; omega)))) | (with_reducible refine Grew.ext ?_ _ _) | (with_reducible refine Grew.drewN ?_ _) | (with_reducible refine Grew.drew ?_)))))).mono ?_); rintro e w1 ⟨rfl, rfl⟩)) | (go_at_call 25; ((with_reducible refine (hfY _ (Grew.trans gwU (by (show Grew _ _; (try simp only [← Array.append_assoc]); repeat (first | (with_reducible exact Grew.same_o) | (with_reducible exact Grew.refl _) | (with_reducible assumption) | (with_reducible refine Grew.alloc ?_ _) | (with_reducible refine Grew.app_r ?_) | ((with_reducible refine Grew.setCell ?_ ?_ _); rotate_left; (focus (dsimp only; first | omega | (simp only [size_ext, World.size_alloc, Array.size_append]; omega)))) | (with_reducible refine Grew.ext ?_ _ _) | (with_reducible refine Grew.drewN ?_ _) | (with_reducible refine Grew.drew ?_)))))).mono ?_); rintro e w1 ⟨rfl, rfl⟩)) | (go_at_call 108; ((with_reducible refine (hback _ (by (show Grew _ _; (try simp only [← Array.append_assoc]); repeat (first | (with_reducible exact Grew.same_o) | (with_reducible exact Grew.refl _) | (with_reducible assumption) | (with_reducible refine Grew.alloc ?_ _) | (with_reducible refine Grew.app_r ?_) | ((with_reducible refine Grew.setCell ?_ ?_ _); rotate_left; (focus (dsimp only; first | omega | (simp only [size_ext, World.size_alloc, Array.size_append]; omega)))) | (with_reducible refine Grew.ext ?_ _ _) | (with_reducible refine Grew.drewN ?_ _) | (with_reducible refine Grew.drew ?_))))).mono ?_); rintro e w1 ⟨rfl, o5, n5, rfl⟩)))
                      go_ret
                      exact ⟨rfl, Grew.trans gwU (by (show Grew _ _; (try simp only [← Array.append_assoc]); repeat (first | (with_reducible exact Grew.same_o) | (with_reducible exact Grew.refl _) | (with_reducible assumption) | (with_reducible refine Grew.alloc ?_ _) | (with_reducible refine Grew.app_r ?_) | ((with_reducible refine Grew.setCell ?_ ?_ _); rotate_left; (focus (dsimp only; first | omega | (simp only [size_ext, World.size_alloc, Array.size_append]; omega)))) | (with_reducible refine Grew.ext ?_ _ _) | (with_reducible refine Grew.drewN ?_ _) | (with_reducible refine Grew.drew ?_))))⟩
                    · rw [hk] at hnq
                      clear fT fX fY hk
                      go_wp2_with (first | (go_at_call 91; ((with_reducible refine (awake22 _).mono ?_); rintro e w1 ⟨rfl, o1, n1, rfl⟩)) | (go_at_call 25; ((with_reducible refine (hfT' _ (by (show Grew _ _; (try simp only [← Array.append_assoc]); repeat (first | (with_reducible exact Grew.same_o) | (with_reducible exact Grew.refl _) | (with_reducible assumption) | (with_reducible refine Grew.alloc ?_ _) | (with_reducible refine Grew.app_r ?_) | ((with_reducible refine Grew.setCell ?_ ?_ _); rotate_left; (focus (dsimp only; first | omega | (simp only [size_ext, World.size_alloc, Array.size_append]; omega)))) | (with_reducible refine Grew.ext ?_ _ _) | (with_reducible refine Grew.drewN ?_ _) | (with_reducible refine Grew.drew ?_))))).mono ?_); rintro e w1 ⟨rfl, rfl⟩)) | (go_at_call 25; ((with_reducible refine (hfX _ (Grew.trans gwU (by (show Grew _ _; (try simp only [← Array.append_assoc]); repeat (first | (with_reducible exact Grew.same_o) | (with_reducible exact Grew.refl _) | (with_reducible assumption) | (with_reducible refine Grew.alloc ?_ _) | (with_reducible refine Grew.app_r ?_) | ((with_reducible refine Grew.setCell ?_ ?_ _); rotate_left; (focus (dsimp only; first | omega | (simp only [size_ext, World.size_alloc, Array.size_append]; omega)))) | (with_reducible refine Grew.ext ?_ _ _) | (with_reducible refine Grew.drewN ?_ _) | (with_reducible refine Grew.drew ?_)))))).mono ?_); rintro e w1 ⟨rfl, rfl⟩)) | (go_at_call 25; ((with_reducible refine (hfY _ (Grew.trans gwU (by (show Grew _ _; (try simp only [← Array.append_assoc]); repeat (first | (with_reducible exact Grew.same_o) | (with_reducible exact Grew.refl _) | (with_reducible assumption) | (with_reducible refine Grew.alloc ?_ _) | (with_reducible refine Grew.app_r ?_) | ((with_reducible refine Grew.setCell ?_ ?_ _); rotate_left; (focus (dsimp only; first | omega | (simp only [size_ext, World.size_alloc, Array.size_append]; omega)))) | (with_reducible refine Grew.ext ?_ _ _) | (with_reducible refine Grew.drewN ?_ _) | (with_reducible refine Grew.drew ?_)))))).mono ?_); rintro e w1 ⟨rfl, rfl⟩)))
                      go_ret
                      exact ⟨rfl, Grew.trans gwU (by (show Grew _ _; (try simp only [← Array.append_assoc]); repeat (first | (with_reducible exact Grew.same_o) | (with_reducible exact Grew.refl _) | (with_reducible assumption) | (with_reducible refine Grew.alloc ?_ _) | (with_reducible refine Grew.app_r ?_) | ((with_reducible refine Grew.setCell ?_ ?_ _); rotate_left; (focus (dsimp only; first | omega | (simp only [size_ext, World.size_alloc, Array.size_append]; omega)))) | (with_reducible refine Grew.ext ?_ _ _) | (with_reducible refine Grew.drewN ?_ _) | (with_reducible refine Grew.drew ?_))))⟩
            · have d4 : ((Y.length : Int) != m.rows) = true := by simpa using r4
              clear hg hgd r1 r2 r3 r4
              go_enter Try.func20, Try.ntmps20
              refine seq_stop ?_
              go_wp2
              refine stop_go (fun W hW => ?_)
              have s1 : w.heap.size < W.heap.size := by rw [hW]; simp only [World.size_alloc]; omega
              have b1 : ∀ i, W.cell? ⟨w.heap.size, i, none⟩ = (#[D, .int .i64 m.off, .int .i64 m.rows, .int .i64 m.cols, .int .i64 m.ld] : Array Value)[i]? := by intro i; rw [hW]; go_simp
              have g0 : Grew w W := by rw [hW]; exact (Grew.refl _).alloc _
              clear hW
              go_wp2_with (first | (go_at_call 91; ((with_reducible refine (awake22 _).mono ?_); rintro e w1 ⟨rfl, o1, n1, rfl⟩)) | (go_at_call 42; ((with_reducible refine (hgr _ (Grew.trans g0 (by (show Grew _ _; repeat (first | (with_reducible exact Grew.refl _) | (with_reducible assumption) | (with_reducible exact Grew.same_o) | (with_reducible exact Grew.app_o) | (with_reducible refine Grew.ext ?_ _ _) | (with_reducible refine Grew.alloc ?_ _) | ((with_reducible refine Grew.setCell ?_ ?_ _); rotate_left; (focus (dsimp only; first | omega | (simp only [size_ext, World.size_alloc, Array.size_append]; omega)))) | (with_reducible refine Grew.drewN ?_ _) | (with_reducible refine Grew.drew ?_)))))).mono ?_); rintro e w1 ⟨rfl, o2, n2, rfl⟩)) | (go_at_call 46; ((with_reducible refine (hgo _ (Grew.trans g0 (by (show Grew _ _; repeat (first | (with_reducible exact Grew.refl _) | (with_reducible assumption) | (with_reducible exact Grew.same_o) | (with_reducible exact Grew.app_o) | (with_reducible refine Grew.ext ?_ _ _) | (with_reducible refine Grew.alloc ?_ _) | ((with_reducible refine Grew.setCell ?_ ?_ _); rotate_left; (focus (dsimp only; first | omega | (simp only [size_ext, World.size_alloc, Array.size_append]; omega)))) | (with_reducible refine Grew.drewN ?_ _) | (with_reducible refine Grew.drew ?_)))))).mono ?_); rintro e w1 ⟨rfl, o3, n3, rfl⟩)))
              go_ret
              exact ⟨rfl, Grew.trans g0 (by (show Grew _ _; repeat (first | (with_reducible exact Grew.refl _) | (with_reducible assumption) | (with_reducible exact Grew.same_o) | (with_reducible exact Grew.app_o) | (with_reducible refine Grew.ext ?_ _ _) | (with_reducible refine Grew.alloc ?_ _) | ((with_reducible refine Grew.setCell ?_ ?_ _); rotate_left; (focus (dsimp only; first | omega | (simp only [size_ext, World.size_alloc, Array.size_append]; omega)))) | (with_reducible refine Grew.drewN ?_ _) | (with_reducible refine Grew.drew ?_))))⟩
          · have d3 : ((X.length : Int) != m.rows) = true := by simpa using r3
            clear hg hgd r1 r2 r3
            go_enter Try.func20, Try.ntmps20
            refine seq_stop ?_
            go_wp2
            refine stop_go (fun W hW => ?_)
            have s1 : w.heap.size < W.heap.size := by rw [hW]; simp only [World.size_alloc]; omega
            have b1 : ∀ i, W.cell? ⟨w.heap.size, i, none⟩ = (#[D, .int .i64 m.off, .int .i64 m.rows, .int .i64 m.cols, .int .i64 m.ld] : Array Value)[i]? := by intro i; rw [hW]; go_simp
            have g0 : Grew w W := by rw [hW]; exact (Grew.refl _).alloc _
            clear hW
            go_wp2_with (first | (go_at_call 91; ((with_reducible refine (awake22 _).mono ?_); rintro e w1 ⟨rfl, o1, n1, rfl⟩)) | (go_at_call 42; ((with_reducible refine (hgr _ (Grew.trans g0 (by (show Grew _ _; repeat (first | (with_reducible exact Grew.refl _) | (with_reducible assumption) | (with_reducible exact Grew.same_o) | (with_reducible exact Grew.app_o) | (with_reducible refine Grew.ext ?_ _ _) | (with_reducible refine Grew.alloc ?_ _) | ((with_reducible refine Grew.setCell ?_ ?_ _); rotate_left; (focus (dsimp only; first | omega | (simp only [size_ext, World.size_alloc, Array.size_append]; omega)))) | (with_reducible refine Grew.drewN ?_ _) | (with_reducible refine Grew.drew ?_)))))).mono ?_); rintro e w1 ⟨rfl, o2, n2, rfl⟩)) | (go_at_call 46; ((with_reducible refine (hgo _ (Grew.trans g0 (by (show Grew _ _; repeat (first | (with_reducible exact Grew.refl _) | (with_reducible assumption) | (with_reducible exact Grew.same_o) | (with_reducible exact Grew.app_o) | (with_reducible refine Grew.ext ?_ _ _) | (with_reducible refine Grew.alloc ?_ _) | ((with_reducible refine Grew.setCell ?_ ?_ _); rotate_left; (focus (dsimp only; first | omega | (simp only [size_ext, World.size_alloc, Array.size_append]; omega)))) | (with_reducible refine Grew.drewN ?_ _) | (with_reducible refine Grew.drew ?_)))))).mono ?_); rintro e w1 ⟨rfl, o3, n3, rfl⟩)))
            go_ret
            exact ⟨rfl, Grew.trans g0 (by (show Grew _ _; repeat (first | (with_reducible exact Grew.refl _) | (with_reducible assumption) | (with_reducible exact Grew.same_o) | (with_reducible exact Grew.app_o) | (with_reducible refine Grew.ext ?_ _ _) | (with_reducible refine Grew.alloc ?_ _) | ((with_reducible refine Grew.setCell ?_ ?_ _); rotate_left; (focus (dsimp only; first | omega | (simp only [size_ext, World.size_alloc, Array.size_append]; omega)))) | (with_reducible refine Grew.drewN ?_ _) | (with_reducible refine Grew.drew ?_))))⟩
        · have d2 : (m.rows != m.cols) = true := by simpa using r2
          clear hg hgd r1 r2
          go_enter Try.func20, Try.ntmps20
          refine seq_stop ?_
          go_wp2
          refine stop_go (fun W hW => ?_)
          have s1 : w.heap.size < W.heap.size := by rw [hW]; simp only [World.size_alloc]; omega
          have b1 : ∀ i, W.cell? ⟨w.heap.size, i, none⟩ = (#[D, .int .i64 m.off, .int .i64 m.rows, .int .i64 m.cols, .int .i64 m.ld] : Array Value)[i]? := by intro i; rw [hW]; go_simp
          have g0 : Grew w W := by rw [hW]; exact (Grew.refl _).alloc _
          clear hW
          go_wp2_with (first | (go_at_call 91; ((with_reducible refine (awake22 _).mono ?_); rintro e w1 ⟨rfl, o1, n1, rfl⟩)) | (go_at_call 42; ((with_reducible refine (hgr _ (Grew.trans g0 (by (show Grew _ _; repeat (first | (with_reducible exact Grew.refl _) | (with_reducible assumption) | (with_reducible exact Grew.same_o) | (with_reducible exact Grew.app_o) | (with_reducible refine Grew.ext ?_ _ _) | (with_reducible refine Grew.alloc ?_ _) | ((with_reducible refine Grew.setCell ?_ ?_ _); rotate_left; (focus (dsimp only; first | omega | (simp only [size_ext, World.size_alloc, Array.size_append]; omega)))) | (with_reducible refine Grew.drewN ?_ _) | (with_reducible refine Grew.drew ?_)))))).mono ?_); rintro e w1 ⟨rfl, o2, n2, rfl⟩)) | (go_at_call 46; ((with_reducible refine (hgo _ (Grew.trans g0 (by (show Grew _ _; repeat (first | (with_reducible exact Grew.refl _) | (with_reducible assumption) | (with_reducible exact Grew.same_o) | (with_reducible exact Grew.app_o) | (with_reducible refine Grew.ext ?_ _ _) | (with_reducible refine Grew.alloc ?_ _) | ((with_reducible refine Grew.setCell ?_ ?_ _); rotate_left; (focus (dsimp only; first | omega | (simp only [size_ext, World.size_alloc, Array.size_append]; omega)))) | (with_reducible refine Grew.drewN ?_ _) | (with_reducible refine Grew.drew ?_)))))).mono ?_); rintro e w1 ⟨rfl, o3, n3, rfl⟩)))
          go_ret
          exact ⟨rfl, Grew.trans g0 (by (show Grew _ _; repeat (first | (with_reducible exact Grew.refl _) | (with_reducible assumption) | (with_reducible exact Grew.same_o) | (with_reducible exact Grew.app_o) | (with_reducible refine Grew.ext ?_ _ _) | (with_reducible refine Grew.alloc ?_ _) | ((with_reducible refine Grew.setCell ?_ ?_ _); rotate_left; (focus (dsimp only; first | omega | (simp only [size_ext, World.size_alloc, Array.size_append]; omega)))) | (with_reducible refine Grew.drewN ?_ _) | (with_reducible refine Grew.drew ?_))))⟩
  · rw [hg] at hgr
    clear hg
    go_enter Try.func20, Try.ntmps20
    refine seq_stop ?_
    go_wp2
    refine stop_go (fun W hW => ?_)
    have s1 : w.heap.size < W.heap.size := by rw [hW]; simp only [World.size_alloc]; omega
    have b1 : ∀ i, W.cell? ⟨w.heap.size, i, none⟩ = (#[D, .int .i64 m.off, .int .i64 m.rows, .int .i64 m.cols, .int .i64 m.ld] : Array Value)[i]? := by intro i; rw [hW]; go_simp
    have g0 : Grew w W := by rw [hW]; exact (Grew.refl _).alloc _
    clear hW
    go_wp2_with (first | (go_at_call 91; ((with_reducible refine (awake22 _).mono ?_); rintro e w1 ⟨rfl, o1, n1, rfl⟩)) | (go_at_call 42; ((with_reducible refine (hgr _ (Grew.trans g0 (by (show Grew _ _; repeat (first | (with_reducible exact Grew.refl _) | (with_reducible assumption) | (with_reducible exact Grew.same_o) | (with_reducible exact Grew.app_o) | (with_reducible refine Grew.ext ?_ _ _) | (with_reducible refine Grew.alloc ?_ _) | ((with_reducible refine Grew.setCell ?_ ?_ _); rotate_left; (focus (dsimp only; first | omega | (simp only [size_ext, World.size_alloc, Array.size_append]; omega)))) | (with_reducible refine Grew.drewN ?_ _) | (with_reducible refine Grew.drew ?_)))))).mono ?_); rintro e w1 ⟨rfl, o2, n2, rfl⟩)) | (go_at_call 46; ((with_reducible refine (hgo _ (Grew.trans g0 (by (show Grew _ _; repeat (first | (with_reducible exact Grew.refl _) | (with_reducible assumption) | (with_reducible exact Grew.same_o) | (with_reducible exact Grew.app_o) | (with_reducible refine Grew.ext ?_ _ _) | (with_reducible refine Grew.alloc ?_ _) | ((with_reducible refine Grew.setCell ?_ ?_ _); rotate_left; (focus (dsimp only; first | omega | (simp only [size_ext, World.size_alloc, Array.size_append]; omega)))) | (with_reducible refine Grew.drewN ?_ _) | (with_reducible refine Grew.drew ?_)))))).mono ?_); rintro e w1 ⟨rfl, o3, n3, rfl⟩)))
    go_ret
    exact ⟨rfl, Grew.trans g0 (by (show Grew _ _; repeat (first | (with_reducible exact Grew.refl _) | (with_reducible assumption) | (with_reducible exact Grew.same_o) | (with_reducible exact Grew.app_o) | (with_reducible refine Grew.ext ?_ _ _) | (with_reducible refine Grew.alloc ?_ _) | ((with_reducible refine Grew.setCell ?_ ?_ _); rotate_left; (focus (dsimp only; first | omega | (simp only [size_ext, World.size_alloc, Array.size_append]; omega)))) | (with_reducible refine Grew.drewN ?_ _) | (with_reducible refine Grew.drew ?_))))⟩
end Go.Proofs.Ytcmggfpcbijcjaa
end
section
/-
  The dump's head as a list of signs, laid by their numbers: the kernel reckons on such a list, not on the text.
-/
set_option linter.unusedSimpArgs false
set_option linter.unusedVariables false
namespace Go.Proofs.Ytcmggfpcbijcjaa
theorem may_cut {P : Program} {c : List Char} {rest : List (List Char)} (h : behindMainWord (wordsSigns P.initOrder.toList) = c :: rest) (hs : stripLifts liftWords (c :: rest) = ([], c :: rest))
    (hc : (c == "cut".toList) = true) (hl : P.laysLater = false) (hr : P.bearsReflect = false) (hd : P.doorFits [] = true) : P.mayEnter = true := by
  have hc' : c = "cut".toList := by simpa using hc
  unfold Program.mayEnter
  rw [h]
  simp only [hs, hl, hr, hd, List.head?_cons, List.contains_nil, Bool.false_or, Bool.not_false, Bool.and_true, Bool.or_true]
  rw [hc']
  simp
theorem final_cut {P : Program} {c : List Char} {rest : List (List Char)} (h : behindMainWord (wordsSigns P.initOrder.toList) = c :: rest) (hs : stripLifts liftWords (c :: rest) = ([], c :: rest))
    (hc : (c == "carried".toList) = false) : P.liftsFinal = false := by
  unfold Program.liftsFinal Program.headLifts
  simp only [h, hs, List.head?_cons, List.contains_nil, ite_self, Bool.or_false]
  have : (some c == some "carried".toList) = false := by simpa using hc
  rw [this]
  rfl
theorem make_cut {P : Program} {c : List Char} {rest : List (List Char)} (h : behindMainWord (wordsSigns P.initOrder.toList) = c :: rest)
    (h1 : (c == "gc".toList || c == "spec".toList) = false) (h2 : (c == "cut".toList) = true) : P.make = some .cut := by
  unfold Program.make
  rw [h]
  simp only [h1, h2, Bool.true_or, Bool.false_eq_true, if_false, if_true]
def headCodes : List Nat := [
  104, 97, 114, 110, 101, 115, 115, 32, 51, 102, 52, 100, 97, 51, 56, 49, 53, 101, 98, 97, 49, 97, 55, 99, 97, 51, 97, 53, 57, 98, 51, 57, 53, 55, 97, 97, 53, 56, 102, 57,
  54, 102, 100, 51, 48, 56, 99, 48, 99, 51, 57, 99, 54, 57, 56, 51, 57, 48, 54, 97, 99, 49, 97, 102, 48, 98, 102, 98, 49, 100, 49, 54, 32, 99, 117, 116, 32, 97, 116, 32,
  115, 116, 114, 97, 105, 103, 104, 116, 101, 100, 103, 101, 47, 115, 116, 114, 97, 105, 103, 104, 116, 101, 100, 103, 101, 108, 97, 119, 48, 54, 46, 65, 120, 101, 115, 67, 108, 111, 115, 101,
  32, 115, 116, 114, 97, 105, 103, 104, 116, 101, 100, 103, 101, 47, 115, 116, 114, 97, 105, 103, 104, 116, 101, 100, 103, 101, 108, 97, 119, 48, 53, 46, 83, 117, 109, 115, 76, 105, 115, 116,
  115, 32, 115, 116, 114, 97, 105, 103, 104, 116, 101, 100, 103, 101, 47, 115, 116, 114, 97, 105, 103, 104, 116, 101, 100, 103, 101, 108, 97, 119, 48, 52, 46, 77, 111, 118, 101, 82, 111, 119,
  115, 32, 115, 116, 114, 97, 105, 103, 104, 116, 101, 100, 103, 101, 47, 115, 116, 114, 97, 105, 103, 104, 116, 101, 100, 103, 101, 108, 97, 119, 48, 56, 46, 71, 101, 114, 84, 101, 108, 108,
  115, 32, 115, 116, 114, 97, 105, 103, 104, 116, 101, 100, 103, 101, 47, 115, 116, 114, 97, 105, 103, 104, 116, 101, 100, 103, 101, 108, 97, 119, 48, 52, 46, 77, 111, 118, 101, 86, 101, 99,
  116, 111, 114, 115, 32, 115, 116, 114, 97, 105, 103, 104, 116, 101, 100, 103, 101, 47, 115, 116, 114, 97, 105, 103, 104, 116, 101, 100, 103, 101, 108, 97, 119, 48, 55, 46, 71, 101, 109, 118,
  67, 108, 111, 115, 101, 32, 115, 116, 114, 97, 105, 103, 104, 116, 101, 100, 103, 101, 47, 115, 116, 114, 97, 105, 103, 104, 116, 101, 100, 103, 101, 108, 97, 119, 49, 49, 46, 71, 101, 109,
  109, 84, 101, 108, 108, 115, 32, 115, 116, 114, 97, 105, 103, 104, 116, 101, 100, 103, 101, 47, 115, 116, 114, 97, 105, 103, 104, 116, 101, 100, 103, 101, 108, 97, 119, 48, 57, 46, 84, 114,
  115, 118, 83, 111, 108, 118, 101, 115, 32, 115, 116, 114, 97, 105, 103, 104, 116, 101, 100, 103, 101, 47, 115, 116, 114, 97, 105, 103, 104, 116, 101, 100, 103, 101, 108, 97, 119, 48, 57, 46,
  84, 114, 115, 118, 66, 97, 99, 107, 119, 97, 114, 100, 32, 115, 116, 114, 97, 105, 103, 104, 116, 101, 100, 103, 101, 47, 115, 116, 114, 97, 105, 103, 104, 116, 101, 100, 103, 101, 108, 97,
  119, 48, 55, 46, 71, 101, 109, 118, 84, 117, 114, 110, 115, 32, 115, 116, 114, 97, 105, 103, 104, 116, 101, 100, 103, 101, 47, 115, 116, 114, 97, 105, 103, 104, 116, 101, 100, 103, 101, 108,
  97, 119, 48, 54, 46, 65, 120, 101, 115, 66, 97, 99, 107, 32, 115, 116, 114, 97, 105, 103, 104, 116, 101, 100, 103, 101, 47, 115, 116, 114, 97, 105, 103, 104, 116, 101, 100, 103, 101, 108,
  97, 119, 49, 49, 46, 71, 101, 109, 109, 87, 104, 111, 108, 101, 32, 115, 116, 114, 97, 105, 103, 104, 116, 101, 100, 103, 101, 47, 115, 116, 114, 97, 105, 103, 104, 116, 101, 100, 103, 101,
  108, 97, 119, 50, 50, 46, 82, 101, 115, 105, 100, 66, 111, 117, 110, 100, 115, 32, 115, 116, 114, 97, 105, 103, 104, 116, 101, 100, 103, 101, 47, 115, 116, 114, 97, 105, 103, 104, 116, 101,
  100, 103, 101, 108, 97, 119, 50, 50, 46, 82, 101, 115, 105, 100, 82, 101, 115, 116, 32, 115, 116, 114, 97, 105, 103, 104, 116, 101, 100, 103, 101, 47, 115, 116, 114, 97, 105, 103, 104, 116,
  101, 100, 103, 101, 108, 97, 119, 48, 54, 46, 65, 120, 101, 115, 83, 99, 97, 108, 101, 32, 115, 116, 114, 97, 105, 103, 104, 116, 101, 100, 103, 101, 47, 115, 116, 114, 97, 105, 103, 104,
  116, 101, 100, 103, 101, 108, 97, 119, 49, 53, 46, 69, 113, 117, 105, 108, 70, 97, 99, 116, 111, 114, 115, 32, 115, 116, 114, 97, 105, 103, 104, 116, 101, 100, 103, 101, 47, 115, 116, 114,
  97, 105, 103, 104, 116, 101, 100, 103, 101, 108, 97, 119, 50, 50, 46, 82, 101, 115, 105, 100, 84, 101, 108, 108, 115, 32, 115, 116, 114, 97, 105, 103, 104, 116, 101, 100, 103, 101, 47, 115,
  116, 114, 97, 105, 103, 104, 116, 101, 100, 103, 101, 108, 97, 119, 50, 50, 46, 82, 101, 115, 105, 100, 66, 97, 99, 107, 119, 97, 114, 100, 32, 115, 116, 114, 97, 105, 103, 104, 116, 101,
  100, 103, 101, 47, 115, 116, 114, 97, 105, 103, 104, 116, 101, 100, 103, 101, 108, 97, 119, 49, 53, 46, 69, 113, 117, 105, 108, 76, 105, 107, 101, 32, 115, 116, 114, 97, 105, 103, 104, 116,
  101, 100, 103, 101, 47, 115, 116, 114, 97, 105, 103, 104, 116, 101, 100, 103, 101, 108, 97, 119, 49, 53, 46, 69, 113, 117, 105, 108, 83, 99, 97, 108, 101, 115, 32, 115, 116, 114, 97, 105,
  103, 104, 116, 101, 100, 103, 101, 47, 115, 116, 114, 97, 105, 103, 104, 116, 101, 100, 103, 101, 108, 97, 119, 50, 48, 46, 76, 97, 99, 110, 66, 101, 108, 111, 119]
def headWords : List (List Nat) := [
  [104, 97, 114, 110, 101, 115, 115],
  [51, 102, 52, 100, 97, 51, 56, 49, 53, 101, 98, 97, 49, 97, 55, 99, 97, 51, 97, 53, 57, 98, 51, 57, 53, 55, 97, 97, 53, 56, 102, 57, 54, 102, 100, 51, 48, 56, 99, 48, 99, 51, 57, 99, 54, 57, 56, 51, 57, 48, 54, 97, 99, 49, 97, 102, 48, 98, 102, 98, 49, 100, 49, 54],
  [99, 117, 116],
  [97, 116],
  [115, 116, 114, 97, 105, 103, 104, 116, 101, 100, 103, 101, 47, 115, 116, 114, 97, 105, 103, 104, 116, 101, 100, 103, 101, 108, 97, 119, 48, 54, 46, 65, 120, 101, 115, 67, 108, 111, 115, 101],
  [115, 116, 114, 97, 105, 103, 104, 116, 101, 100, 103, 101, 47, 115, 116, 114, 97, 105, 103, 104, 116, 101, 100, 103, 101, 108, 97, 119, 48, 53, 46, 83, 117, 109, 115, 76, 105, 115, 116, 115],
  [115, 116, 114, 97, 105, 103, 104, 116, 101, 100, 103, 101, 47, 115, 116, 114, 97, 105, 103, 104, 116, 101, 100, 103, 101, 108, 97, 119, 48, 52, 46, 77, 111, 118, 101, 82, 111, 119, 115],
  [115, 116, 114, 97, 105, 103, 104, 116, 101, 100, 103, 101, 47, 115, 116, 114, 97, 105, 103, 104, 116, 101, 100, 103, 101, 108, 97, 119, 48, 56, 46, 71, 101, 114, 84, 101, 108, 108, 115],
  [115, 116, 114, 97, 105, 103, 104, 116, 101, 100, 103, 101, 47, 115, 116, 114, 97, 105, 103, 104, 116, 101, 100, 103, 101, 108, 97, 119, 48, 52, 46, 77, 111, 118, 101, 86, 101, 99, 116, 111, 114, 115],
  [115, 116, 114, 97, 105, 103, 104, 116, 101, 100, 103, 101, 47, 115, 116, 114, 97, 105, 103, 104, 116, 101, 100, 103, 101, 108, 97, 119, 48, 55, 46, 71, 101, 109, 118, 67, 108, 111, 115, 101],
  [115, 116, 114, 97, 105, 103, 104, 116, 101, 100, 103, 101, 47, 115, 116, 114, 97, 105, 103, 104, 116, 101, 100, 103, 101, 108, 97, 119, 49, 49, 46, 71, 101, 109, 109, 84, 101, 108, 108, 115],
  [115, 116, 114, 97, 105, 103, 104, 116, 101, 100, 103, 101, 47, 115, 116, 114, 97, 105, 103, 104, 116, 101, 100, 103, 101, 108, 97, 119, 48, 57, 46, 84, 114, 115, 118, 83, 111, 108, 118, 101, 115],
  [115, 116, 114, 97, 105, 103, 104, 116, 101, 100, 103, 101, 47, 115, 116, 114, 97, 105, 103, 104, 116, 101, 100, 103, 101, 108, 97, 119, 48, 57, 46, 84, 114, 115, 118, 66, 97, 99, 107, 119, 97, 114, 100],
  [115, 116, 114, 97, 105, 103, 104, 116, 101, 100, 103, 101, 47, 115, 116, 114, 97, 105, 103, 104, 116, 101, 100, 103, 101, 108, 97, 119, 48, 55, 46, 71, 101, 109, 118, 84, 117, 114, 110, 115],
  [115, 116, 114, 97, 105, 103, 104, 116, 101, 100, 103, 101, 47, 115, 116, 114, 97, 105, 103, 104, 116, 101, 100, 103, 101, 108, 97, 119, 48, 54, 46, 65, 120, 101, 115, 66, 97, 99, 107],
  [115, 116, 114, 97, 105, 103, 104, 116, 101, 100, 103, 101, 47, 115, 116, 114, 97, 105, 103, 104, 116, 101, 100, 103, 101, 108, 97, 119, 49, 49, 46, 71, 101, 109, 109, 87, 104, 111, 108, 101],
  [115, 116, 114, 97, 105, 103, 104, 116, 101, 100, 103, 101, 47, 115, 116, 114, 97, 105, 103, 104, 116, 101, 100, 103, 101, 108, 97, 119, 50, 50, 46, 82, 101, 115, 105, 100, 66, 111, 117, 110, 100, 115],
  [115, 116, 114, 97, 105, 103, 104, 116, 101, 100, 103, 101, 47, 115, 116, 114, 97, 105, 103, 104, 116, 101, 100, 103, 101, 108, 97, 119, 50, 50, 46, 82, 101, 115, 105, 100, 82, 101, 115, 116],
  [115, 116, 114, 97, 105, 103, 104, 116, 101, 100, 103, 101, 47, 115, 116, 114, 97, 105, 103, 104, 116, 101, 100, 103, 101, 108, 97, 119, 48, 54, 46, 65, 120, 101, 115, 83, 99, 97, 108, 101],
  [115, 116, 114, 97, 105, 103, 104, 116, 101, 100, 103, 101, 47, 115, 116, 114, 97, 105, 103, 104, 116, 101, 100, 103, 101, 108, 97, 119, 49, 53, 46, 69, 113, 117, 105, 108, 70, 97, 99, 116, 111, 114, 115],
  [115, 116, 114, 97, 105, 103, 104, 116, 101, 100, 103, 101, 47, 115, 116, 114, 97, 105, 103, 104, 116, 101, 100, 103, 101, 108, 97, 119, 50, 50, 46, 82, 101, 115, 105, 100, 84, 101, 108, 108, 115],
  [115, 116, 114, 97, 105, 103, 104, 116, 101, 100, 103, 101, 47, 115, 116, 114, 97, 105, 103, 104, 116, 101, 100, 103, 101, 108, 97, 119, 50, 50, 46, 82, 101, 115, 105, 100, 66, 97, 99, 107, 119, 97, 114, 100],
  [115, 116, 114, 97, 105, 103, 104, 116, 101, 100, 103, 101, 47, 115, 116, 114, 97, 105, 103, 104, 116, 101, 100, 103, 101, 108, 97, 119, 49, 53, 46, 69, 113, 117, 105, 108, 76, 105, 107, 101],
  [115, 116, 114, 97, 105, 103, 104, 116, 101, 100, 103, 101, 47, 115, 116, 114, 97, 105, 103, 104, 116, 101, 100, 103, 101, 108, 97, 119, 49, 53, 46, 69, 113, 117, 105, 108, 83, 99, 97, 108, 101, 115],
  [115, 116, 114, 97, 105, 103, 104, 116, 101, 100, 103, 101, 47, 115, 116, 114, 97, 105, 103, 104, 116, 101, 100, 103, 101, 108, 97, 119, 50, 48, 46, 76, 97, 99, 110, 66, 101, 108, 111, 119]]
def W : List (List Char) := headWords.map (·.map Char.ofNat)
theorem head_eq : Try.prog.initOrder = String.ofList (headCodes.map Char.ofNat) := by kernel_rfl
theorem head_list : Try.prog.initOrder.toList = headCodes.map Char.ofNat := by rw [head_eq, String.toList_ofList]
theorem head_words : wordsSigns (headCodes.map Char.ofNat) = W := by kernel_rfl
def cutWord : List Char := W.getD 2 []
def restWords : List (List Char) := W.drop 3
theorem head_split : behindMainWord W = cutWord :: restWords := by kernel_rfl
theorem head_behind : behindMainWord (wordsSigns Try.prog.initOrder.toList) = cutWord :: restWords := by rw [head_list, head_words]; exact head_split
theorem head_strip : stripLifts liftWords (cutWord :: restWords) = ([], cutWord :: restWords) := by kernel_rfl
theorem head_final : Try.prog.liftsFinal = false := final_cut head_behind head_strip (by kernel_rfl)
theorem head_make : Try.prog.make = some .cut := make_cut head_behind (by kernel_rfl) (by kernel_rfl)
theorem head_may : Try.prog.mayEnter = true := may_cut head_behind head_strip (by kernel_rfl) (by kernel_rfl) (by kernel_rfl) (by kernel_rfl)
end Go.Proofs.Ytcmggfpcbijcjaa
end
