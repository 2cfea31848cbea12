/-
  GemmTells: the example; the reference's answer of three matrices.
-/
import Derived.Test.YtcmggfpcbijcjaaGemm4
set_option linter.unusedSimpArgs false
set_option linter.unusedVariables false
open Go Go.RowKit Sedge
namespace Go.Proofs.Ytcmggfpcbijcjaa
theorem rmul_mat (a α b β : Nat) (x y z : MatM) (ha : IsF a α) (hb : IsF b β) (hx : x.good = true) (hy : y.good = true) (hz : z.good = true) (e1 : x.cols = y.rows) (e2 : z.rows = x.rows) (e3 : z.cols = y.cols) (h1 : x.rows ≤ 1000) (h2 : x.cols ≤ 1000) (h3 : y.cols ≤ 1000) :
    ∀ w A B D, FS w A x.tab → FS w B y.tab → FS w D z.tab → Calls Try.prog 77 #[.float .f64 a, .agg #[.int .i64 x.rows, .int .i64 x.cols, A], .agg #[.int .i64 y.rows, .int .i64 y.cols, B], .float .f64 b, .agg #[.int .i64 z.rows, .int .i64 z.cols, D]] w
      (fun e w2 => ∃ v t, e = .returned (.agg #[.int .i64 z.rows, .int .i64 z.cols, v]) ∧ FS w2 v t ∧ t.length = z.rows.toNat * z.cols.toNat ∧ Hold z.place z.rows.toNat z.cols.toNat z.ws (z.into z.rows.toNat z.cols.toNat t) (gemmF α β x y z) ∧ ∃ o n, w2 = ext w o n) := by
  intro w A B D hA hB hD
  have hnx := MatM.good_n hx
  have hny := MatM.good_n hy
  have hnz := MatM.good_n hz
  obtain ⟨R, hR⟩ : ∃ R : Nat, x.rows = R := ⟨x.rows.toNat, by omega⟩
  obtain ⟨K, hK⟩ : ∃ K : Nat, x.cols = K := ⟨x.cols.toNat, by omega⟩
  obtain ⟨C, hC⟩ : ∃ C : Nat, y.cols = C := ⟨y.cols.toNat, by omega⟩
  have n1 : x.rows.toNat = R := by omega
  have n2 : x.cols.toNat = K := by omega
  have n3 : y.cols.toNat = C := by omega
  have n4 : y.rows.toNat = K := by omega
  have n5 : z.rows.toNat = R := by omega
  have n6 : z.cols.toNat = C := by omega
  have gx := (MatM.tab_hold x).get
  have gy := (MatM.tab_hold y).get
  have gz := (MatM.tab_hold z).get
  rw [n1, n2] at gx
  rw [n4, n3] at gy
  rw [n5, n6] at gz
  have h := rmul11_any a α b β R K C x.tab y.tab z.tab x.num y.num z.num A B D w ha hb hA hB hD (by rw [MatM.tab_length, n1, n2]) (by rw [MatM.tab_length, n4, n3]) (by rw [MatM.tab_length, n5, n6]) gx gy gz (by omega) (by omega) (by omega)
  rw [show x.rows = (R : Int) from hR, show x.cols = (K : Int) from hK, show y.rows = (K : Int) by omega, show y.cols = (C : Int) from hC, show z.rows = (R : Int) by omega, show z.cols = (C : Int) by omega]
  refine h.mono fun e w2 hh => ?_
  obtain ⟨v, t, rfl, q1, q2, q3⟩ := hh
  have q4 := MatM.into_hold hz (t := t) (l1 := List.replicate (R * C) 0) (f := mul11F α β K x.num y.num z.num) (by rw [n5, n6]; exact q2)
  rw [n5, n6] at q4
  refine ⟨v, t, rfl, q1.fs, ?_, ?_, q3⟩
  · rw [q2.len, List.length_replicate]; simp
  · simp only [Int.toNat_natCast]
    refine q4.congr fun i j hi hj => ?_
    unfold mul11F gemmF
    rw [n2]
theorem rinto_matZ (m : MatM) (D : Value) (hm : m.good = true) (hr : m.rows ≤ 1000) (hc : m.cols ≤ 1000) (hl : m.ws.length ≤ 1000000) :
    ∀ w A t, FS w D m.ws → FS w A t → t.length = m.rows.toNat * m.cols.toNat → Calls Try.prog 51 #[.agg #[D, .int .i64 m.off, .int .i64 m.rows, .int .i64 m.cols, .int .i64 m.ld], .agg #[.int .i64 m.rows, .int .i64 m.cols, A]] w
      (fun e w2 => ∃ v, e = .returned v ∧ FS w2 v (m.into m.rows.toNat m.cols.toNat t) ∧ ∃ o n, w2 = ext w o n) := by
  intro w A t hD hA ht
  have hn := MatM.good_n hm
  have e1 : m.rows = (m.rows.toNat : Int) := by omega
  have e2 : m.cols = (m.cols.toNat : Int) := by omega
  have h := rinto_any m D A m.rows.toNat m.cols.toNat t w hD hA hm (by omega) (by omega) (by omega) (by omega) hl ht
  rw [show ((m.rows.toNat : Nat) : Int) = m.rows by omega, show ((m.cols.toNat : Nat) : Int) = m.cols by omega] at h
  refine h.mono fun e w2 hh => ?_
  obtain ⟨v, rfl, h1, h2⟩ := hh
  exact ⟨v, rfl, h1.fs, h2⟩
def Z2 : List Nat := List.replicate (2 * 1) 0
def X56 : List Nat := [4617315517961601024, 4618441417868443648]
def M11 : List Nat := [4625478292286210048, 4630685579355357184]
theorem hold_11 : Hold (MatM.place ⟨Z2, 0, 2, 1, 2⟩) 2 1 Z2 M11 (gemmF 4607182418800017408 0 ⟨M4d, 0, 2, 2, 2⟩ ⟨X56, 0, 2, 1, 2⟩ ⟨Z2, 0, 2, 1, 2⟩) := by
  refine ⟨rfl, fun i j hi hj => ?_, fun q hq => ?_⟩
  · obtain rfl : j = 0 := by omega
    obtain rfl | rfl : i = 0 ∨ i = 1 := by omega
    · decide +kernel
    · decide +kernel
  · obtain rfl | rfl | h4 : q = 0 ∨ q = 1 ∨ 2 ≤ q := by omega
    · exact absurd (by decide) (hq 0 0 (by decide) (by decide))
    · exact absurd (by decide) (hq 1 0 (by decide) (by decide))
    · rw [List.getD_eq_getElem?_getD, List.getD_eq_getElem?_getD, List.getElem?_eq_none (by show 2 ≤ q; exact h4), List.getElem?_eq_none (by show 2 ≤ q; exact h4)]
theorem gemm_11 (g cg bx cx bz cz : Nat) (w : World) (hF : FW w g Z2) (hX : FW w bx M4d) (hY : FW w bz X56) (n1 : bx ≠ g) (n2 : bz ≠ g) :
    Calls Try.prog 75 #[.float .f64 4607182418800017408, .agg #[.slice (some ⟨bx, 0, none⟩) 4 cx, .int .i64 0, .int .i64 2, .int .i64 2, .int .i64 2], .agg #[.slice (some ⟨bz, 0, none⟩) 2 cz, .int .i64 0, .int .i64 2, .int .i64 1, .int .i64 2], .float .f64 0, .agg #[.slice (some ⟨g, 0, none⟩) 2 cg, .int .i64 0, .int .i64 2, .int .i64 1, .int .i64 2]] w
      (fun e w' => e = .returned (.int .i64 0) ∧ But w [g] w' ∧ FW w' g M11) := by
  have h := gemm_any 4607182418800017408 4607182418800017408 0 0 ⟨M4d, 0, 2, 2, 2⟩ ⟨X56, 0, 2, 1, 2⟩ ⟨Z2, 0, 2, 1, 2⟩ bx cx bz cz g cg w (hX.fs (by decide) cx) (hY.fs (by decide) cz) hF (FW.plain hX) (FW.plain hY)
    (fun e => absurd e n1) (fun e => absurd e n2) (by simp [MatM.wf, I64]) (by simp [MatM.wf, I64]) (by simp [MatM.wf, I64]) (by decide) (by decide) (by decide) hX.lt hY.lt (by decide +kernel) (by decide +kernel)
  rw [show decide (g = bx) = false by simpa using fun e => n1 e.symm, show decide (g = bz) = false by simpa using fun e => n2 e.symm] at h
  have e1 : gemmE ⟨M4d, 0, 2, 2, 2⟩ ⟨X56, 0, 2, 1, 2⟩ ⟨Z2, 0, 2, 1, 2⟩ false false = 0 := by decide +kernel
  rw [e1] at h
  refine h.mono fun e w' hh => ?_
  obtain ⟨rfl, h1, L, h2, _, h3⟩ := hh
  refine ⟨rfl, h1, ?_⟩
  rw [← Hold.unique (h3 rfl) hold_11 (fun _ _ _ _ => rfl)]
  exact h2
set_option maxRecDepth 100000 in
set_option maxHeartbeats 4000000 in
theorem awake11 (w : World) : Calls Try.prog 73 #[] w (fun e w' => e = .returned (.bool true) ∧ ∃ o n, w' = ext w o n) := by
  have h1 : ∀ x ∈ M4, IsF x x := by decide +kernel
  have h2 : ∀ x ∈ X56, IsF x x := by decide +kernel
  have h3 : ∀ x ∈ M11, IsF x x := by decide +kernel
  have H1 := hid h1
  have H2 := hid h2
  have H3 := hid h3
  have da : decide (M11 = M11) = true := by decide +kernel
  clear h1 h2 h3
  have hd : ∀ w', Calls Try.prog 69 #[.int .i64 2, .int .i64 1, .slice none 0 0] w' (fun e w2 => ∃ v, e = .returned (.agg #[v, .int .i64 0, .int .i64 2, .int .i64 1, .int .i64 2]) ∧ WS w2 w'.heap.size v Z2 ∧ ∃ o n, w2 = ext w' o n) := fun w' => dense0_any 2 1 w' (by decide) (by decide) (by decide) (by decide)
  have hd2 : ∀ aL w', FS w' (.slice aL 2 2) X56 → Calls Try.prog 69 #[.int .i64 2, .int .i64 1, .slice aL 2 2] w' (fun e w2 => ∃ v, e = .returned (.agg #[v, .int .i64 0, .int .i64 2, .int .i64 1, .int .i64 2]) ∧ WS w2 w'.heap.size v X56 ∧ ∃ o n, w2 = ext w' o n) := fun aL w' h => by
    have h := dense_any 2 1 aL X56 w' h (by decide) (by decide) (by decide) (by decide) rfl
    have e : denseL 2 1 X56 = X56 := by decide +kernel
    rw [e] at h
    exact h
  go_enter Try.func73, Try.ntmps73
  go_wp2_with (first | (go_at_call 69; ((with_reducible refine (hd _).mono ?_); rintro e w1 ⟨v, rfl, ⟨g, cap, rfl, hg, hF, hgl⟩, hw1⟩)))
  refine name_any (fun V hV => ?_)
  have gV : Grew w1 V := by rw [← hV]; (show Grew _ _; repeat (first | (with_reducible exact Grew.refl _) | (with_reducible assumption) | (with_reducible refine Grew.ext ?_ _ _) | (with_reducible refine Grew.alloc ?_ _) | ((with_reducible refine Grew.setCell ?_ ?_ _); rotate_left; (focus (dsimp only; first | omega | (simp only [size_ext, World.size_alloc, Array.size_append]; omega)))) | (with_reducible refine Grew.drewN ?_ _) | (with_reducible refine Grew.drew ?_)))
  have hFV : FW V g Z2 := hF.grew gV
  have gl := hF.lt
  have cb : ∀ i, V.cell? ⟨w1.heap.size, i, none⟩ = (#[.slice (some ⟨g, 0, none⟩) Z2.length cap, .int .i64 0, .int .i64 2, .int .i64 1, .int .i64 2] : Array Value)[i]? := by subst hV; intro i; go_simp
  have kb : w1.heap.size < V.heap.size := by rw [← hV]; simp only [World.size_alloc]; omega
  have gw : Grew w V := Grew.trans hw1 gV
  have zw := (show Grew w w1 from hw1).below.size
  have cbU : ∀ w', But V [g] w' → ∀ i, w'.cell? ⟨w1.heap.size, i, none⟩ = (#[.slice (some ⟨g, 0, none⟩) Z2.length cap, .int .i64 0, .int .i64 2, .int .i64 1, .int .i64 2] : Array Value)[i]? := fun w' h i => (h.cell kb (by simp; omega)).trans (cb i)
  clear hV
  have hm : ∀ w' bx cx bz cz, Grew V w' → FW w' bx M4d → FW w' bz X56 → V.heap.size ≤ bx → V.heap.size ≤ bz → Calls Try.prog 75 #[.float .f64 4607182418800017408, .agg #[.slice (some ⟨bx, 0, none⟩) M4d.length cx, .int .i64 0, .int .i64 2, .int .i64 2, .int .i64 2], .agg #[.slice (some ⟨bz, 0, none⟩) X56.length cz, .int .i64 0, .int .i64 2, .int .i64 1, .int .i64 2], .float .f64 0, .agg #[.slice (some ⟨g, 0, none⟩) Z2.length cap, .int .i64 0, .int .i64 2, .int .i64 1, .int .i64 2]] w'
      (fun e w2 => e = .returned (.int .i64 0) ∧ But w' [g] w2 ∧ FW w2 g M11) := fun w' bx cx bz cz hg h1 h2 h3 h4 => gemm_11 g cap bx cx bz cz w' (hFV.grew hg) h1 h2 (by have := hFV.lt; omega) (by have := hFV.lt; omega)
  refine wp_region_F (But V [g]) (.step 0 4 (.alt 0 (.alt 1 (.alt 2 (.alt 3 (.alt 5 (.step 0 6 .done) .stop) .stop) .stop) (.alt 2 (.alt 1 (.alt 3 (.alt 5 (.step 0 6 .done) .stop) .stop) .stop) .stop)) (.alt 2 (.alt 0 (.alt 1 (.alt 3 (.alt 5 (.step 0 6 .done) .stop) .stop) .stop) .stop) .stop))) (by kernel_rfl) (by kernel_rfl) (fun _ _ _ _ h _ => h) ((But.refl _ _).grew ((Grew.refl _).drew)) ?_
  go_wp2_with (first | ((with_reducible refine wpF_id ?_); first | (refine wpF_take (v := ?_) rfl rfl ?_ ?_; rotate_left; (focus (intro w' hw'; go_simp; try with_reducible rfl)); simp only [Act.put, List.setIfInBounds_toArray, List.set_cons_zero, List.set_cons_succ]) | (refine wpF_alt rfl rfl (fun K hK => ?_) ?_) | (exact wpF_stop) | (refine wpF_done ?_)) | ((with_reducible refine wpF_go ?_ ?_); (focus (first | (with_reducible assumption) | exact (But.refl _ _).grew (by (show Grew _ _; repeat (first | (with_reducible exact Grew.refl _) | (with_reducible assumption) | (with_reducible refine Grew.ext ?_ _ _) | (with_reducible refine Grew.alloc ?_ _) | ((with_reducible refine Grew.setCell ?_ ?_ _); rotate_left; (focus (dsimp only; first | omega | (simp only [size_ext, World.size_alloc, Array.size_append]; omega)))) | (with_reducible refine Grew.drewN ?_ _) | (with_reducible refine Grew.drew ?_))))))) | ((with_reducible refine upon_id ?_); refine upon_fop rfl (by assumption) (by assumption) ?_; intro rr nn hr) | (go_at_call 69; ((with_reducible refine (dense_4 _ _ ?_).mono ?_); (focus (repeat (first | exact FS.lit M4 (by decide) H1.out 4 _ (by simp only [size_ext, World.size_alloc]) | exact FS.lit M4 (by decide) H1.out 4 _ rfl | refine FS.alloc ?_ _ | refine FS.ext ?_ _ _))); rintro e wA ⟨v2, rfl, ⟨gx, cx, rfl, hgx, hFx, hglx⟩, hwx⟩; have gx1 : Grew V wA := Grew.trans (by (show Grew _ _; repeat (first | (with_reducible exact Grew.refl _) | (with_reducible assumption) | (with_reducible refine Grew.ext ?_ _ _) | (with_reducible refine Grew.alloc ?_ _) | ((with_reducible refine Grew.setCell ?_ ?_ _); rotate_left; (focus (dsimp only; first | omega | (simp only [size_ext, World.size_alloc, Array.size_append]; omega)))) | (with_reducible refine Grew.drewN ?_ _) | (with_reducible refine Grew.drew ?_)))) hwx; have qx : V.heap.size ≤ gx := Nat.le_trans (Grew.below (by (show Grew _ _; repeat (first | (with_reducible exact Grew.refl _) | (with_reducible assumption) | (with_reducible refine Grew.ext ?_ _ _) | (with_reducible refine Grew.alloc ?_ _) | ((with_reducible refine Grew.setCell ?_ ?_ _); rotate_left; (focus (dsimp only; first | omega | (simp only [size_ext, World.size_alloc, Array.size_append]; omega)))) | (with_reducible refine Grew.drewN ?_ _) | (with_reducible refine Grew.drew ?_))))).size hgx)) | (go_at_call 69; ((with_reducible refine (hd2 _ _ ?_).mono ?_); (focus (first | ((repeat (first | exact FS.lit X56 (by decide) H2.out 2 _ (by simp only [size_ext, World.size_alloc]) | exact FS.lit X56 (by decide) H2.out 2 _ rfl | refine FS.alloc ?_ _ | refine FS.ext ?_ _ _)); done) | (refine FS.grew ?_ hwx; (repeat (first | exact FS.lit X56 (by decide) H2.out 2 _ (by simp only [size_ext, World.size_alloc]) | exact FS.lit X56 (by decide) H2.out 2 _ rfl | refine FS.alloc ?_ _ | refine FS.ext ?_ _ _)); done))); rintro e wB ⟨v3, rfl, ⟨gy, cy, rfl, hgy, hFy, hgly⟩, hwy⟩; have gV2 : Grew V wB := Grew.trans (by (show Grew _ _; repeat (first | (with_reducible exact Grew.refl _) | (with_reducible assumption) | (with_reducible refine Grew.ext ?_ _ _) | (with_reducible refine Grew.alloc ?_ _) | ((with_reducible refine Grew.setCell ?_ ?_ _); rotate_left; (focus (dsimp only; first | omega | (simp only [size_ext, World.size_alloc, Array.size_append]; omega)))) | (with_reducible refine Grew.drewN ?_ _) | (with_reducible refine Grew.drew ?_)))) hwy; have qy : V.heap.size ≤ gy := Nat.le_trans (Grew.below (by (show Grew _ _; repeat (first | (with_reducible exact Grew.refl _) | (with_reducible assumption) | (with_reducible refine Grew.ext ?_ _ _) | (with_reducible refine Grew.alloc ?_ _) | ((with_reducible refine Grew.setCell ?_ ?_ _); rotate_left; (focus (dsimp only; first | omega | (simp only [size_ext, World.size_alloc, Array.size_append]; omega)))) | (with_reducible refine Grew.drewN ?_ _) | (with_reducible refine Grew.drew ?_))))).size hgy; have fx : FW wB gx M4d := by first | exact hFx.grew hwy | exact (hFx.alloc _).grew hwy)) | (go_at_call 75; ((with_reducible refine (hm _ gx cx gy cy gV2 fx hFy qx qy).mono ?_); rintro e w4 ⟨rfl, hB, hF2⟩; have hBV : But V [g] w4 := ((But.refl V [g]).grew gV2).trans hB (fun _ hb => .inl hb); have cb4 := cbU _ hBV; have kb4 : w1.heap.size < w4.heap.size := by have := hBV.size; omega)))
  all_goals (
    have hfs : FS w4 (.slice (some ⟨g, 0, none⟩) Z2.length cap) M11 := hF2.fs (by decide) cap
    go_wp2_with (first | ((with_reducible refine wpF_id ?_); first | (refine wpF_take (v := ?_) rfl rfl ?_ ?_; rotate_left; (focus (intro w' hw'; go_simp; try with_reducible rfl)); simp only [Act.put, List.setIfInBounds_toArray, List.set_cons_zero, List.set_cons_succ]) | (refine wpF_alt rfl rfl (fun K hK => ?_) ?_) | (exact wpF_stop) | (refine wpF_done ?_)) | ((with_reducible refine wpF_go ?_ ?_); (focus (first | (with_reducible assumption) | exact (But.refl _ _).grew (by (show Grew _ _; repeat (first | (with_reducible exact Grew.refl _) | (with_reducible assumption) | (with_reducible refine Grew.ext ?_ _ _) | (with_reducible refine Grew.alloc ?_ _) | ((with_reducible refine Grew.setCell ?_ ?_ _); rotate_left; (focus (dsimp only; first | omega | (simp only [size_ext, World.size_alloc, Array.size_append]; omega)))) | (with_reducible refine Grew.drewN ?_ _) | (with_reducible refine Grew.drew ?_))))))) | ((with_reducible refine upon_id ?_); refine upon_fop rfl (by assumption) (by assumption) ?_; intro rr nn hr) | (go_at_call 47; ((with_reducible refine (all_any _ _ M11 M11 _ ?_ ?_).mono ?_); (focus (exact hfs.alloc _)); (focus (repeat (first | exact FS.lit M11 (by decide) H3.out 2 _ (by simp only [size_ext, World.size_alloc]) | exact FS.lit M11 (by decide) H3.out 2 _ rfl | refine FS.alloc ?_ _ | refine FS.ext ?_ _ _))); rintro e w5 ⟨rfl, hw5⟩)))
    go_ret
    exact ⟨rfl, (hBV.grew0 gw (by intro k hk; simp at hk; omega)).trans (((Grew.refl _).alloc _).trans hw5)⟩)
end Go.Proofs.Ytcmggfpcbijcjaa
