/-
  GerTells: the example; the reference's answer of a matrix and two vectors.
-/
import Derived.Test.YtcmggfpcbijcjaaGer3
import Derived.Test.YtcmggfpcbijcjaaGer4
import Derived.Test.YtcmggfpcbijcjaaDense
import Derived.Test.YtcmggfpcbijcjaaClear
set_option linter.unusedSimpArgs false
set_option linter.unusedVariables false
open Go Go.RowKit Sedge
namespace Go.Proofs.Ytcmggfpcbijcjaa
theorem meet_empty {m : MatM} (x : VecM) (h : m.ws.length = 0) : meetM (rowM x) m true = false := by
  have : MatM.full m = false := by
    cases hf : MatM.full m
    · rfl
    · have := MatM.full_place hf; omega
  unfold meetM; rw [this]; simp
theorem rger_mat (a α : Nat) (x y : VecM) (m : MatM) (ha : IsF a α) (hm : m.good = true) (hx : x.right = true) (hy : y.right = true) (h4 : x.n = m.rows) (h5 : y.n = m.cols) (hr : m.rows ≤ 1000) (hc : m.cols ≤ 1000) :
    ∀ w A X Y, FS w A m.tab → FS w X x.list → FS w Y y.list → Calls Try.prog 60 #[.float .f64 a, X, Y, .agg #[.int .i64 m.rows, .int .i64 m.cols, A]] w
      (fun e w2 => ∃ v t, e = .returned (.agg #[.int .i64 m.rows, .int .i64 m.cols, v]) ∧ FS w2 v t ∧ t.length = m.rows.toNat * m.cols.toNat ∧ Hold m.place m.rows.toNat m.cols.toNat m.ws (m.into m.rows.toNat m.cols.toNat t) (fun i j => gerF α x y i j (m.num i j)) ∧ ∃ o n, w2 = ext w o n) := by
  intro w A X Y hA hX hY
  have hn := MatM.good_n hm
  have e1 : m.rows = (m.rows.toNat : Int) := by omega
  have e2 : m.cols = (m.cols.toNat : Int) := by omega
  have hh : Hold (fun i j => i * m.cols.toNat + j) m.rows.toNat m.cols.toNat m.tab m.tab m.num := ⟨rfl, (MatM.tab_hold m).get, fun _ _ => rfl⟩
  have h := rger_any a α m.rows.toNat m.cols.toNat m.tab x.list y.list m.num A X Y w ha hA hX hY (by rw [VecM.list_length, h4]) (by rw [VecM.list_length, h5]) (MatM.tab_length m) hh (by omega) (by omega)
  rw [← e1, ← e2] at h
  refine h.mono fun e w2 hh => ?_
  obtain ⟨v, t, rfl, h1, h2, h3⟩ := hh
  refine ⟨v, t, rfl, h1.fs, by rw [h2.len, MatM.tab_length], (MatM.into_hold hm h2).congr fun i j hi hj => ?_, h3⟩
  unfold rgerF gerF
  rw [VecM.list_get (by omega), VecM.list_get (by omega)]
theorem rinto_mat (m : MatM) (D : Value) (hm : m.good = true) (hr : m.rows ≤ 1000) (hc : m.cols ≤ 1000) (hl : m.ws.length ≤ 1000000) :
    ∀ w A t, FS w D m.ws → FS w A t → t.length = m.rows.toNat * m.cols.toNat → Calls Try.prog 51 #[.agg #[D, .int .i64 m.off, .int .i64 m.rows, .int .i64 m.cols, .int .i64 m.ld], .agg #[.int .i64 m.rows, .int .i64 m.cols, A]] w
      (fun e w2 => ∃ v, e = .returned v ∧ FS w2 v (m.into m.rows.toNat m.cols.toNat t) ∧ ∃ o n, w2 = ext w o n) := by
  intro w A t hD hA ht
  have hn := MatM.good_n hm
  have e1 : m.rows = (m.rows.toNat : Int) := by omega
  have e2 : m.cols = (m.cols.toNat : Int) := by omega
  have h := rinto_any m D A m.rows.toNat m.cols.toNat t w hD hA hm (by omega) (by omega) (by omega) (by omega) hl ht
  rw [show ((m.rows.toNat : Nat) : Int) = m.rows by omega, show ((m.cols.toNat : Nat) : Int) = m.cols by omega] at h
  refine h.mono fun e w2 hh => ?_
  obtain ⟨v, rfl, h1, h2⟩ := hh
  exact ⟨v, rfl, h1.fs, h2⟩
def Z4 : List Nat := List.replicate (2 * 2) 0
def M8 : List Nat := [4613937818241073152, 4618441417868443648, 4616189618054758400, 4620693217682128896]
def X12' : List Nat := [4607182418800017408, 4611686018427387904]
def X34 : List Nat := [4613937818241073152, 4616189618054758400]
theorem hold_8 : Hold (MatM.place ⟨Z4, 0, 2, 2, 2⟩) 2 2 Z4 M8 (fun i j => gerF 4607182418800017408 ⟨X12', 0, 2, 1⟩ ⟨X34, 0, 2, 1⟩ i j (MatM.num ⟨Z4, 0, 2, 2, 2⟩ i j)) := by
  refine ⟨rfl, fun i j hi hj => ?_, fun q hq => ?_⟩
  · obtain rfl | rfl : i = 0 ∨ i = 1 := by omega
    · obtain rfl | rfl : j = 0 ∨ j = 1 := by omega
      · decide +kernel
      · decide +kernel
    · obtain rfl | rfl : j = 0 ∨ j = 1 := by omega
      · decide +kernel
      · decide +kernel
  · obtain rfl | rfl | rfl | rfl | h4 : q = 0 ∨ q = 1 ∨ q = 2 ∨ q = 3 ∨ 4 ≤ q := by omega
    · exact absurd (by decide) (hq 0 0 (by decide) (by decide))
    · exact absurd (by decide) (hq 1 0 (by decide) (by decide))
    · exact absurd (by decide) (hq 0 1 (by decide) (by decide))
    · exact absurd (by decide) (hq 1 1 (by decide) (by decide))
    · rw [List.getD_eq_getElem?_getD, List.getD_eq_getElem?_getD, List.getElem?_eq_none (by show 4 ≤ q; exact h4), List.getElem?_eq_none (by show 4 ≤ q; exact h4)]
theorem ger_8 (g cg bx cx bz cz : Nat) (w : World) (hF : FW w g Z4) (hX : FW w bx X12') (hY : FW w bz X34) (n1 : bx ≠ g) (n2 : bz ≠ g) :
    Calls Try.prog 55 #[.float .f64 4607182418800017408, .agg #[.slice (some ⟨bx, 0, none⟩) 2 cx, .int .i64 0, .int .i64 2, .int .i64 1], .agg #[.slice (some ⟨bz, 0, none⟩) 2 cz, .int .i64 0, .int .i64 2, .int .i64 1], .agg #[.slice (some ⟨g, 0, none⟩) 4 cg, .int .i64 0, .int .i64 2, .int .i64 2, .int .i64 2]] w
      (fun e w' => e = .returned (.int .i64 0) ∧ But w [g] w' ∧ FW w' g M8) := by
  have h := ger_any ⟨X12', 0, 2, 1⟩ ⟨X34, 0, 2, 1⟩ ⟨Z4, 0, 2, 2, 2⟩ bx cx bz cz g cg 4607182418800017408 w (hX.fs (by decide) cx) (hY.fs (by decide) cz) (hF.fs (by decide) cg) (FW.plain hX) (FW.plain hY) (FW.plain hF) 4607182418800017408 (by decide +kernel) hF
    (fun e => absurd e n1) (fun e => absurd e n2) (by simp [VecM.wf, I64]) (by simp [VecM.wf, I64]) (by simp [MatM.wf, I64]) (by decide) (by decide) (by decide) (by decide) (by decide) hX.lt hY.lt
  rw [show decide (bx = g) = false by simpa using n1, show decide (bz = g) = false by simpa using n2] at h
  have e1 : gerE ⟨X12', 0, 2, 1⟩ ⟨X34, 0, 2, 1⟩ ⟨Z4, 0, 2, 2, 2⟩ false false = 0 := by decide +kernel
  rw [e1] at h
  refine h.mono fun e w' hh => ?_
  obtain ⟨rfl, h1, L, h2, _, h3⟩ := hh
  refine ⟨rfl, h1, ?_⟩
  rw [← Hold.unique (h3 rfl) hold_8 (fun _ _ _ _ => rfl)]
  exact h2
set_option maxRecDepth 100000 in
set_option maxHeartbeats 1000000 in
theorem awake08 (w : World) : Calls Try.prog 52 #[] w (fun e w' => e = .returned (.bool true) ∧ ∃ o n, w' = ext w o n) := by
  have h1 : ∀ x ∈ X12', IsF x x := by decide +kernel
  have h2 : ∀ x ∈ X34, IsF x x := by decide +kernel
  have h3 : ∀ x ∈ M8, IsF x x := by decide +kernel
  have H1 := hid h1
  have H2 := hid h2
  have H3 := hid h3
  have da : decide (M8 = M8) = true := by decide +kernel
  clear h1 h2 h3
  have hd : ∀ w', Calls Try.prog 69 #[.int .i64 2, .int .i64 2, .slice none 0 0] w' (fun e w2 => ∃ v, e = .returned (.agg #[v, .int .i64 0, .int .i64 2, .int .i64 2, .int .i64 2]) ∧ WS w2 w'.heap.size v Z4 ∧ ∃ o n, w2 = ext w' o n) := fun w' => dense0_any 2 2 w' (by decide) (by decide) (by decide) (by decide)
  go_enter Try.func52, Try.ntmps52
  go_wp2_with (first | (go_at_call 69; ((with_reducible refine (hd _).mono ?_); rintro e w1 ⟨v, rfl, ⟨g, cap, rfl, hg, hF, hgl⟩, hw1⟩)))
  refine name_call (fun V hV => ?_)
  have gV : Grew w1 V := by rw [← hV]; (show Grew _ _; repeat (first | (with_reducible exact Grew.refl _) | (with_reducible assumption) | (with_reducible refine Grew.ext ?_ _ _) | (with_reducible refine Grew.alloc ?_ _) | ((with_reducible refine Grew.setCell ?_ ?_ _); rotate_left; (focus (dsimp only; first | omega | (simp only [size_ext, World.size_alloc, Array.size_append]; omega)))) | (with_reducible refine Grew.drewN ?_ _) | (with_reducible refine Grew.drew ?_)))
  have hFV : FW V g Z4 := hF.grew gV
  have gl := hF.lt
  have fx : FW V (w1.heap.size + 1) X12' := by rw [← hV]; exact (FW.lit' X12' H1.out _ (by simp only [World.size_alloc])).alloc _
  have fy : FW V (w1.heap.size + 2) X34 := by rw [← hV]; exact FW.lit' X34 H2.out _ (by simp only [World.size_alloc])
  have cb : ∀ i, V.cell? ⟨w1.heap.size, i, none⟩ = (#[.slice (some ⟨g, 0, none⟩) Z4.length cap, .int .i64 0, .int .i64 2, .int .i64 2, .int .i64 2] : Array Value)[i]? := by subst hV; intro i; go_simp
  have kb : w1.heap.size < V.heap.size := by have := fx.lt; omega
  clear hV
  refine (ger_8 g cap (w1.heap.size + 1) 2 (w1.heap.size + 2) 2 V hFV fx fy (by omega) (by omega)).mono ?_
  rintro e w2 ⟨rfl, hB, hF2⟩
  have cb2 := fun i => (hB.cell (i := i) kb (by simp; omega)).trans (cb i)
  have kb2 : w1.heap.size < w2.heap.size := by have := hB.size; omega
  have hfs : FS w2 (.slice (some ⟨g, 0, none⟩) Z4.length cap) M8 := hF2.fs (by decide) cap
  go_wp2_with (first | (go_at_call 47; ((with_reducible refine (all_any _ _ M8 M8 _ ?_ ?_).mono ?_); (focus (exact hfs.alloc _)); (focus (repeat (first | exact FS.lit M8 (by decide) H3.out 4 _ (by simp only [size_ext, World.size_alloc]) | exact FS.lit M8 (by decide) H3.out 4 _ rfl | refine FS.alloc ?_ _ | refine FS.ext ?_ _ _))); rintro e w4 ⟨rfl, hw4⟩)))
  go_ret
  have gw : Grew w V := Grew.trans hw1 gV
  exact ⟨rfl, (hB.grew0 gw (by intro k hk; simp at hk; have := (show Grew w w1 from hw1).below.size; omega)).trans (((Grew.refl _).alloc _).trans hw4)⟩
end Go.Proofs.Ytcmggfpcbijcjaa
