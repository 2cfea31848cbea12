/-
  Texts laid one behind the other (a claim has at most 60 files): LawWh1, LawTurnI, LawWh, OpenA.
-/
import Derived.Deep.CutBlock
import Derived.Deep.DeepCutAuto
import Derived.Deep.RegionWith
import Derived.OpenShut
import Derived.Test.YtcmggfpcbijcjaaQGemmWhole1
import Derived.Test.YtcmggfpcbijcjaaQGemmWhole2
import Derived.Test.YtcmggfpcbijcjaaQGemmWhole3
import Derived.Test.YtcmggfpcbijcjaaQGemmWhole4
import Derived.Test.YtcmggfpcbijcjaaQGemmWhole5
import Derived.Test.YtcmggfpcbijcjaaQGemmWhole6
import Derived.Test.YtcmggfpcbijcjaaQGemmWhole7
import Derived.Test.YtcmggfpcbijcjaaQGemmWhole8
import Derived.Test.YtcmggfpcbijcjaaQGemmWhole9
import Derived.Test.YtcmggfpcbijcjaaQGemmWhole10
section
/-
  The walk of the law GemmWhole (layer 11): the sizes and the three matrices.
-/
set_option linter.unusedSimpArgs false
set_option linter.unusedVariables false
open Go Go.RowKit Sedge
namespace Go.Proofs.Ytcmggfpcbijcjaa
/-- The sizes drawn, as far as the loop has come. -/
def szAt (r0 r1 r2 r3 i : Nat) : Array Value := #[.int .i64 (if 0 < i then r0 else 0 : Nat), .int .i64 (if 1 < i then r1 else 0 : Nat), .int .i64 (if 2 < i then r2 else 0 : Nat), .int .i64 (if 3 < i then r3 else 0 : Nat)]
set_option maxRecDepth 100000 in
set_option maxHeartbeats 8000000 in
theorem whole_main (aL : Option Addr) (cL : Nat) (ls : List Int) (y0 y1 y2 y3 r0 r1 r2 r3 : Nat) (hy0 : y0 < 256) (hy1 : y1 < 256) (hy2 : y2 < 256) (hy3 : y3 < 256) (e0 : (1 + (y0 : Int) % 6) = (r0 : Int)) (e1 : (1 + (y1 : Int) % 6) = (r1 : Int)) (e2 : (1 + (y2 : Int) % 6) = (r2 : Int)) (e3 : (1 + (y3 : Int) % 6) = (r3 : Int)) (w : World) (hL : IS .i8 w (.slice aL ls.length cL) ls) (bL : ∀ k, (ls.getD k 0).natAbs ≤ 128) :
    Calls Try.prog 14 #[.slice aL ls.length cL, .agg #[.int .u8 y0, .int .u8 y1, .int .u8 y2, .int .u8 y3]] w (fun e w' => e = .returned (.bool true) ∧ ∃ o n, w' = ext w o n) := by
  have hlL := hL.len
  have HL := hid hL
  have HbL := hid bL
  have R0 : 1 ≤ r0 ∧ r0 ≤ 6 := by omega
  have R1 : 1 ≤ r1 ∧ r1 ≤ 6 := by omega
  have R2 : 1 ≤ r2 ∧ r2 ≤ 6 := by omega
  have R3 : 1 ≤ r3 ∧ r3 ≤ 6 := by omega
  have E0 := hid e0
  have E1 := hid e1
  have E2 := hid e2
  have E3 := hid e3
  clear hL bL e0 e1 e2 e3
  go_enter Try.func14, Try.ntmps14
  refine seq_stop ?_
  go_wp2
  refine stop_go (fun W hW => ?_)
  have s1 : w.heap.size < W.heap.size := by rw [hW]; simp only [World.size_alloc]; omega
  have b1 : ∀ i, W.cell? ⟨w.heap.size, i, none⟩ = (#[.slice aL ls.length cL] : Array Value)[i]? := by intro i; rw [hW]; go_simp
  have X1 : Box W (w.heap.size) #[.slice aL ls.length cL] := by rw [hW]; refine Box.grew ?_ ((Grew.refl _).alloc _); exact Box.new' (by first | rfl | (simp only [World.size_alloc]; done) | (simp only [World.size_alloc]; omega))
  have f1 : ∀ i, W.frozen? ⟨w.heap.size, i, none⟩ = false := by intro i; rw [hW]; go_simp
  have s2 : w.heap.size + 1 < W.heap.size := by rw [hW]; simp only [World.size_alloc]; omega
  have b2 : ∀ i, W.cell? ⟨w.heap.size + 1, i, none⟩ = (#[.int .u8 y0, .int .u8 y1, .int .u8 y2, .int .u8 y3] : Array Value)[i]? := by intro i; rw [hW]; go_simp
  have X2 : Box W (w.heap.size + 1) #[.int .u8 y0, .int .u8 y1, .int .u8 y2, .int .u8 y3] := by rw [hW]; exact Box.new' (by first | rfl | (simp only [World.size_alloc]; done) | (simp only [World.size_alloc]; omega))
  have f2 : ∀ i, W.frozen? ⟨w.heap.size + 1, i, none⟩ = false := by intro i; rw [hW]; go_simp
  have g0 : Grew w W := by rw [hW]; exact ((Grew.refl _).alloc _).alloc _
  clear hW
  go_upto_region 4 with (first | (go_at_call 73; ((with_reducible refine (awake11 _).mono ?_); rintro e w1 ⟨rfl, o1, m1, rfl⟩)))
  refine name_any (fun V hV => ?_)
  obtain ⟨p2, hp2⟩ : ∃ p, p = w.heap.size := ⟨_, rfl⟩
  obtain ⟨p3, hp3⟩ : ∃ p, p = w.heap.size + 1 := ⟨_, rfl⟩
  obtain ⟨p5, hp5⟩ : ∃ p, p = W.heap.size + o1.size := ⟨_, rfl⟩
  have gV : Grew W V := by rw [← hV]; (show Grew _ _; (try simp only [← Array.append_assoc]); repeat (first | (with_reducible exact Grew.same_o) | (with_reducible exact Grew.refl _) | (with_reducible assumption) | (with_reducible refine Grew.alloc ?_ _) | (with_reducible refine Grew.app_r ?_) | ((with_reducible refine Grew.setCell ?_ ?_ _); rotate_left; (focus (dsimp only; first | omega | (simp only [size_ext, World.size_alloc, Array.size_append]; omega)))) | (with_reducible refine Grew.ext ?_ _ _) | (with_reducible refine Grew.drewN ?_ _) | (with_reducible refine Grew.drew ?_)))
  have gwV := Grew.trans g0 gV
  have Y2 : Box V p2 #[.slice aL ls.length cL] := by rw [hp2]; exact X1.grew gV
  have Y3 : Box V p3 #[.int .u8 y0, .int .u8 y1, .int .u8 y2, .int .u8 y3] := by rw [hp3]; exact X2.grew gV
  have Y5 : Box V p5 (szAt r0 r1 r2 r3 0) := by rw [← hV]; exact Box.new' (by rw [hp5]; simp only [size_ext])
  have l2 := Y2.lt
  have l3 := Y3.lt
  have n25 : p2 ≠ p5 := by omega
  have n35 : p3 ≠ p5 := by omega
  have z5 : W.heap.size ≤ p5 := by omega
  have z2 : p2 < W.heap.size := by omega
  have z3 : p3 < W.heap.size := by omega
  have Q2 : Box W p2 #[.slice aL ls.length cL] := by rw [hp2]; exact X1
  have Q3 : Box W p3 #[.int .u8 y0, .int .u8 y1, .int .u8 y2, .int .u8 y3] := by rw [hp3]; exact X2
  simp only [← hp5]
  simp only [← hp3]
  simp only [← hp2]
  clear hV hp2 hp3 hp5 X1 X2 b1 b2 s1 s2 f1 f2
  go_wp2
  go_loopw [6] (fun c1 wr => ∃ i : Nat, i ≤ 4 ∧ c1 = .int .i64 i ∧ Grew W wr ∧ Box wr p5 (szAt r0 r1 r2 r3 i)) (fun c1 _ => 4 - (intOf c1).toNat)
  case atStart => exact ⟨0, by omega, rfl, gV, Y5⟩
  case round =>
    obtain ⟨i, hi, rfl, gr, Bn⟩ := hrel
    have B3 := Q3.grew gr
    have t3 := B3.cell
    have l3 := B3.lt
    have f5 := Bn.frozen
    have l5 := Bn.lt
    clear Y2 Y3 Y5
    rcases (show i = 0 ∨ i = 1 ∨ i = 2 ∨ i = 3 ∨ i = 4 by omega) with rfl | rfl | rfl | rfl | rfl
    · have t5 := Bn.cell
      go_wp2
      go_roundw
      case rel => exact ⟨1, by omega, rfl, gr.setCell z5 _, by rw [Bn.setCell_eq, E0.out]; exact Bn.upd_self _⟩
      case measure => simp [intOf]
    · have t5 := Bn.cell
      go_wp2
      go_roundw
      case rel => exact ⟨2, by omega, rfl, gr.setCell z5 _, by rw [Bn.setCell_eq, E1.out]; exact Bn.upd_self _⟩
      case measure => simp [intOf]
    · have t5 := Bn.cell
      go_wp2
      go_roundw
      case rel => exact ⟨3, by omega, rfl, gr.setCell z5 _, by rw [Bn.setCell_eq, E2.out]; exact Bn.upd_self _⟩
      case measure => simp [intOf]
    · have t5 := Bn.cell
      go_wp2
      go_roundw
      case rel => exact ⟨4, by omega, rfl, gr.setCell z5 _, by rw [Bn.setCell_eq, E3.out]; exact Bn.upd_self _⟩
      case measure => simp [intOf]
    · have t5 : Box wr p5 #[.int .i64 r0, .int .i64 r1, .int .i64 r2, .int .i64 r3] := Bn
      have gw := Grew.trans g0 gr
      have B2 := Q2.grew gr
      clear gV gwV Bn Q2 Q3 f5 E0 E1 E2 E3 hy0 hy1 hy2 hy3 t3 B3 l3
      go_upto_region 10 with fail
      refine name_any (fun X hX => ?_)
      obtain ⟨p7, hp7⟩ : ∃ p, p = wr.heap.size := ⟨_, rfl⟩
      have gX : Grew wr X := by rw [← hX]; (show Grew _ _; (try simp only [← Array.append_assoc]); repeat (first | (with_reducible exact Grew.same_o) | (with_reducible exact Grew.refl _) | (with_reducible assumption) | (with_reducible refine Grew.alloc ?_ _) | (with_reducible refine Grew.app_r ?_) | ((with_reducible refine Grew.setCell ?_ ?_ _); rotate_left; (focus (dsimp only; first | omega | (simp only [size_ext, World.size_alloc, Array.size_append]; omega)))) | (with_reducible refine Grew.ext ?_ _ _) | (with_reducible refine Grew.drewN ?_ _) | (with_reducible refine Grew.drew ?_)))
      have B7 : Box X p7 #[.int .i64 (0 : Nat)] := by rw [← hX]; exact Box.new' hp7
      have B5X := t5.grew gX
      have B2X := B2.grew gX
      have gwX := Grew.trans gw gX
      have lB5 := t5.lt
      have lB2 := B2.lt
      have n57 : p5 ≠ p7 := by omega
      have n27 : p2 ≠ p7 := by omega
      have l7 := B7.lt
      have zw := gw.below.size
      have hLk := But.is (G := [p7]) gwX HL.out (by intro k hk; simp at hk; omega)
      simp only [← hp7]
      have z7 : w.heap.size ≤ p7 := by omega
      clear hX hp7 B2 t5 gX
      have hmk : ∀ (u : World) (a b : Nat), a ≤ 6 → 1 ≤ a → b ≤ 6 → 1 ≤ b → (But X [p7] u ∧ ∃ k : Nat, k ≤ ls.length ∧ Box u p7 #[.int .i64 k]) →
          Calls Try.prog 86 #[.int .i64 a, .int .i64 b, .pointer (some ⟨p7, 0, none⟩), .pointer (some ⟨p2, 0, none⟩)] u (fun e w' => ∃ g L, e = .returned (.agg #[.slice (some ⟨g, 0, none⟩) (a * b) (a * b), .int .i64 0, .int .i64 a, .int .i64 b, .int .i64 a]) ∧ u.heap.size ≤ g ∧ FW w' g L ∧ L.length = a * b ∧ W50 L ∧ But u [p7] w' ∧ But X [p7] w' ∧ ∃ k : Nat, k ≤ ls.length ∧ Box w' p7 #[.int .i64 k]) := fun u a b ha ha1 hb hb1 ⟨hbu, k, hk, hbx⟩ =>
        (make1_ok a b k ha ha1 hb hb1 ls _ HbL.out p2 p7 u (fun w' hw' => hLk w' (hbu.trans hw' (fun _ h => .inl h))) (Box.but2 B2X hbu (by simp; omega)) hbx hk n27).mono fun e w' ⟨g, L, k', h1, h2, h3, h4, h5, h6, h7, h8⟩ =>
          ⟨g, L, h1, h2, h3, h4, h5, h6, hbu.trans h6 (fun _ h => .inl h), k', h8, h7⟩
      have hth : Thru X (fun u => But X [p7] u ∧ ∃ k : Nat, k ≤ ls.length ∧ Box u p7 #[.int .i64 k]) := ⟨fun _ _ ⟨h1, k, h2, h3⟩ g => ⟨h1.grew g, k, h2, h3.grew g⟩, fun _ _ _ hp ⟨h1, k, h2, h3⟩ => ⟨h1.upd (.inr hp) _, k, h2, h3.upd_ne (by omega) _⟩⟩
      have hfun : ∀ u, But X [p7] u → ∀ i, u.cell? ⟨p5, i, none⟩ = (#[.int .i64 r0, .int .i64 r1, .int .i64 r2, .int .i64 r3] : Array Value)[i]? := fun u hb => (Box.but2 B5X hb (by simp; omega)).cell
      have hlt5 : ∀ u, But X [p7] u → p5 < u.heap.size := fun u hb => (Box.but2 B5X hb (by simp; omega)).lt
      refine wp_region_JM [9, 10, 11] (X) (fun u => But X [p7] u ∧ ∃ k : Nat, k ≤ ls.length ∧ Box u p7 #[.int .i64 k]) [.val (fun v => v = .func (.func 86) #[] #[.pointer (some ⟨p7, 0, none⟩), .pointer (some ⟨p2, 0, none⟩)]), .val (fun v => v = .pointer (some ⟨p5, 0, none⟩)), .val (fun v => v = .int .i64 r0), .val (fun v => v = .pointer (some ⟨p5, 1, none⟩)), .val (fun v => v = .int .i64 r1), .row (fun s => .agg #[s, .int .i64 0, .int .i64 r0, .int .i64 r1, .int .i64 r0]) (r0 * r1) (fun _ => W50), .val (fun v => v = .func (.func 86) #[] #[.pointer (some ⟨p7, 0, none⟩), .pointer (some ⟨p2, 0, none⟩)]), .val (fun v => v = .pointer (some ⟨p5, 1, none⟩)), .val (fun v => v = .int .i64 r1), .val (fun v => v = .pointer (some ⟨p5, 2, none⟩)), .val (fun v => v = .int .i64 r2), .row (fun s => .agg #[s, .int .i64 0, .int .i64 r1, .int .i64 r2, .int .i64 r1]) (r1 * r2) (fun _ => W50), .val (fun v => v = .func (.func 86) #[] #[.pointer (some ⟨p7, 0, none⟩), .pointer (some ⟨p2, 0, none⟩)]), .val (fun v => v = .pointer (some ⟨p5, 2, none⟩)), .val (fun v => v = .int .i64 r2), .val (fun v => v = .pointer (some ⟨p5, 3, none⟩)), .val (fun v => v = .int .i64 r3), .row (fun s => .agg #[s, .int .i64 0, .int .i64 r2, .int .i64 r3, .int .i64 r2]) (r2 * r3) (fun _ => W50), .box 5, .box 5, .box 5, .put 9 (fun s => #[s, .int .i64 0, .int .i64 r0, .int .i64 r1, .int .i64 r0]) (r0 * r1) (fun _ => W50), .put 10 (fun s => #[s, .int .i64 0, .int .i64 r1, .int .i64 r2, .int .i64 r1]) (r1 * r2) (fun _ => W50), .put 11 (fun s => #[s, .int .i64 0, .int .i64 r2, .int .i64 r3, .int .i64 r2]) (r2 * r3) (fun _ => W50)] [39, 40, 41, 42, 43, 44, 45, 46, 47, 48, 49, 50, 51, 52, 53, 54, 55, 56, 9, 10, 11] (hth) (by kernel_rfl) (by kernel_rfl) (⟨But.refl _ _, 0, Nat.zero_le _, B7⟩) (by (show Grew _ _; (try simp only [← Array.append_assoc]); repeat (first | (with_reducible exact Grew.same_o) | (with_reducible exact Grew.refl _) | (with_reducible assumption) | (with_reducible refine Grew.alloc ?_ _) | (with_reducible refine Grew.app_r ?_) | ((with_reducible refine Grew.setCell ?_ ?_ _); rotate_left; (focus (dsimp only; first | omega | (simp only [size_ext, World.size_alloc, Array.size_append]; omega)))) | (with_reducible refine Grew.ext ?_ _ _) | (with_reducible refine Grew.drewN ?_ _) | (with_reducible refine Grew.drew ?_)))) ?_ (fun ρ own V hI gz hF => ?_)
      · refine stepsM_cons (j := 1) rfl ?_ ?_
        · intro L ρ own u hS K hK
          have tc := hfun u hS.inv.1
          have tl := hlt5 u hS.inv.1
          simp only [mkA_cons, mkA_nil, List.setIfInBounds_toArray, List.set_cons_zero, List.set_cons_succ]
          go_wp2_with fail
          exact hS.val rfl rfl (by kernel_rfl) (by (show Grew _ _; (try simp only [← Array.append_assoc]); repeat (first | (with_reducible exact Grew.same_o) | (with_reducible exact Grew.refl _) | (with_reducible assumption) | (with_reducible refine Grew.alloc ?_ _) | (with_reducible refine Grew.app_r ?_) | ((with_reducible refine Grew.setCell ?_ ?_ _); rotate_left; (focus (dsimp only; first | omega | (simp only [size_ext, World.size_alloc, Array.size_append]; omega)))) | (with_reducible refine Grew.ext ?_ _ _) | (with_reducible refine Grew.drewN ?_ _) | (with_reducible refine Grew.drew ?_)))) (by first | rfl | assumption) (by first | (simp only [mkA_cons, mkA_nil, List.setIfInBounds_toArray, List.set_cons_zero, List.set_cons_succ, *]; done) | (simp only [mkA_cons, mkA_nil, List.setIfInBounds_toArray, List.set_cons_zero, List.set_cons_succ, *]; rfl))
        refine stepsM_cons (j := 2) rfl ?_ ?_
        · intro L ρ own u hS K hK
          have tc := hfun u hS.inv.1
          have tl := hlt5 u hS.inv.1
          simp only [mkA_cons, mkA_nil, List.setIfInBounds_toArray, List.set_cons_zero, List.set_cons_succ]
          go_wp2_with fail
          exact hS.val rfl rfl (by kernel_rfl) (by (show Grew _ _; (try simp only [← Array.append_assoc]); repeat (first | (with_reducible exact Grew.same_o) | (with_reducible exact Grew.refl _) | (with_reducible assumption) | (with_reducible refine Grew.alloc ?_ _) | (with_reducible refine Grew.app_r ?_) | ((with_reducible refine Grew.setCell ?_ ?_ _); rotate_left; (focus (dsimp only; first | omega | (simp only [size_ext, World.size_alloc, Array.size_append]; omega)))) | (with_reducible refine Grew.ext ?_ _ _) | (with_reducible refine Grew.drewN ?_ _) | (with_reducible refine Grew.drew ?_)))) (by first | rfl | assumption) (by first | (simp only [mkA_cons, mkA_nil, List.setIfInBounds_toArray, List.set_cons_zero, List.set_cons_succ, *]; done) | (simp only [mkA_cons, mkA_nil, List.setIfInBounds_toArray, List.set_cons_zero, List.set_cons_succ, *]; rfl))
        refine stepsM_cons (j := 3) rfl ?_ ?_
        · intro L ρ own u hS K hK
          have e1 := hS.fact 1 rfl rfl (by kernel_rfl)
          change ρ 40 = _ at e1
          have tc := hfun u hS.inv.1
          have tl := hlt5 u hS.inv.1
          simp only [mkA_cons, mkA_nil, List.setIfInBounds_toArray, List.set_cons_zero, List.set_cons_succ]
          go_wp2_with fail
          exact hS.val rfl rfl (by kernel_rfl) (by (show Grew _ _; (try simp only [← Array.append_assoc]); repeat (first | (with_reducible exact Grew.same_o) | (with_reducible exact Grew.refl _) | (with_reducible assumption) | (with_reducible refine Grew.alloc ?_ _) | (with_reducible refine Grew.app_r ?_) | ((with_reducible refine Grew.setCell ?_ ?_ _); rotate_left; (focus (dsimp only; first | omega | (simp only [size_ext, World.size_alloc, Array.size_append]; omega)))) | (with_reducible refine Grew.ext ?_ _ _) | (with_reducible refine Grew.drewN ?_ _) | (with_reducible refine Grew.drew ?_)))) (by first | rfl | assumption) (by first | (simp only [mkA_cons, mkA_nil, List.setIfInBounds_toArray, List.set_cons_zero, List.set_cons_succ, *]; done) | (simp only [mkA_cons, mkA_nil, List.setIfInBounds_toArray, List.set_cons_zero, List.set_cons_succ, *]; rfl))
        refine stepsM_cons (j := 4) rfl ?_ ?_
        · intro L ρ own u hS K hK
          have tc := hfun u hS.inv.1
          have tl := hlt5 u hS.inv.1
          simp only [mkA_cons, mkA_nil, List.setIfInBounds_toArray, List.set_cons_zero, List.set_cons_succ]
          go_wp2_with fail
          exact hS.val rfl rfl (by kernel_rfl) (by (show Grew _ _; (try simp only [← Array.append_assoc]); repeat (first | (with_reducible exact Grew.same_o) | (with_reducible exact Grew.refl _) | (with_reducible assumption) | (with_reducible refine Grew.alloc ?_ _) | (with_reducible refine Grew.app_r ?_) | ((with_reducible refine Grew.setCell ?_ ?_ _); rotate_left; (focus (dsimp only; first | omega | (simp only [size_ext, World.size_alloc, Array.size_append]; omega)))) | (with_reducible refine Grew.ext ?_ _ _) | (with_reducible refine Grew.drewN ?_ _) | (with_reducible refine Grew.drew ?_)))) (by first | rfl | assumption) (by first | (simp only [mkA_cons, mkA_nil, List.setIfInBounds_toArray, List.set_cons_zero, List.set_cons_succ, *]; done) | (simp only [mkA_cons, mkA_nil, List.setIfInBounds_toArray, List.set_cons_zero, List.set_cons_succ, *]; rfl))
        refine stepsM_cons (j := 5) rfl ?_ ?_
        · intro L ρ own u hS K hK
          have e3 := hS.fact 3 rfl rfl (by kernel_rfl)
          change ρ 42 = _ at e3
          have tc := hfun u hS.inv.1
          have tl := hlt5 u hS.inv.1
          simp only [mkA_cons, mkA_nil, List.setIfInBounds_toArray, List.set_cons_zero, List.set_cons_succ]
          go_wp2_with fail
          exact hS.val rfl rfl (by kernel_rfl) (by (show Grew _ _; (try simp only [← Array.append_assoc]); repeat (first | (with_reducible exact Grew.same_o) | (with_reducible exact Grew.refl _) | (with_reducible assumption) | (with_reducible refine Grew.alloc ?_ _) | (with_reducible refine Grew.app_r ?_) | ((with_reducible refine Grew.setCell ?_ ?_ _); rotate_left; (focus (dsimp only; first | omega | (simp only [size_ext, World.size_alloc, Array.size_append]; omega)))) | (with_reducible refine Grew.ext ?_ _ _) | (with_reducible refine Grew.drewN ?_ _) | (with_reducible refine Grew.drew ?_)))) (by first | rfl | assumption) (by first | (simp only [mkA_cons, mkA_nil, List.setIfInBounds_toArray, List.set_cons_zero, List.set_cons_succ, *]; done) | (simp only [mkA_cons, mkA_nil, List.setIfInBounds_toArray, List.set_cons_zero, List.set_cons_succ, *]; rfl))
        refine stepsM_cons (j := 6) rfl ?_ ?_
        · intro L ρ own u hS K hK
          have e0 := hS.fact 0 rfl rfl (by kernel_rfl)
          change ρ 39 = _ at e0
          have e2 := hS.fact 2 rfl rfl (by kernel_rfl)
          change ρ 41 = _ at e2
          have e4 := hS.fact 4 rfl rfl (by kernel_rfl)
          change ρ 43 = _ at e4
          have tc := hfun u hS.inv.1
          have tl := hlt5 u hS.inv.1
          simp only [mkA_cons, mkA_nil, List.setIfInBounds_toArray, List.set_cons_zero, List.set_cons_succ]
          go_wp2_with (first | (go_at_call 86; ((with_reducible refine (hmk u r0 r1 (by omega) (by omega) (by omega) (by omega) hS.inv).mono ?_); rintro e w1 ⟨g, LL, rfl, hz1, hF1, hl1, hw1, hb1, hi1⟩)))
          exact hS.row rfl rfl (by kernel_rfl) (Kept.but hb1 (by intro k hk; simp at hk; omega)) (hi1) (hz1) (hF1) (hl1) (hw1) (by first | (simp only [mkA_cons, mkA_nil, List.setIfInBounds_toArray, List.set_cons_zero, List.set_cons_succ, *]; done) | (simp only [mkA_cons, mkA_nil, List.setIfInBounds_toArray, List.set_cons_zero, List.set_cons_succ, *]; rfl))
        refine stepsM_cons (j := 7) rfl ?_ ?_
        · intro L ρ own u hS K hK
          have tc := hfun u hS.inv.1
          have tl := hlt5 u hS.inv.1
          simp only [mkA_cons, mkA_nil, List.setIfInBounds_toArray, List.set_cons_zero, List.set_cons_succ]
          go_wp2_with fail
          exact hS.val rfl rfl (by kernel_rfl) (by (show Grew _ _; (try simp only [← Array.append_assoc]); repeat (first | (with_reducible exact Grew.same_o) | (with_reducible exact Grew.refl _) | (with_reducible assumption) | (with_reducible refine Grew.alloc ?_ _) | (with_reducible refine Grew.app_r ?_) | ((with_reducible refine Grew.setCell ?_ ?_ _); rotate_left; (focus (dsimp only; first | omega | (simp only [size_ext, World.size_alloc, Array.size_append]; omega)))) | (with_reducible refine Grew.ext ?_ _ _) | (with_reducible refine Grew.drewN ?_ _) | (with_reducible refine Grew.drew ?_)))) (by first | rfl | assumption) (by first | (simp only [mkA_cons, mkA_nil, List.setIfInBounds_toArray, List.set_cons_zero, List.set_cons_succ, *]; done) | (simp only [mkA_cons, mkA_nil, List.setIfInBounds_toArray, List.set_cons_zero, List.set_cons_succ, *]; rfl))
        refine stepsM_cons (j := 8) rfl ?_ ?_
        · intro L ρ own u hS K hK
          have tc := hfun u hS.inv.1
          have tl := hlt5 u hS.inv.1
          simp only [mkA_cons, mkA_nil, List.setIfInBounds_toArray, List.set_cons_zero, List.set_cons_succ]
          go_wp2_with fail
          exact hS.val rfl rfl (by kernel_rfl) (by (show Grew _ _; (try simp only [← Array.append_assoc]); repeat (first | (with_reducible exact Grew.same_o) | (with_reducible exact Grew.refl _) | (with_reducible assumption) | (with_reducible refine Grew.alloc ?_ _) | (with_reducible refine Grew.app_r ?_) | ((with_reducible refine Grew.setCell ?_ ?_ _); rotate_left; (focus (dsimp only; first | omega | (simp only [size_ext, World.size_alloc, Array.size_append]; omega)))) | (with_reducible refine Grew.ext ?_ _ _) | (with_reducible refine Grew.drewN ?_ _) | (with_reducible refine Grew.drew ?_)))) (by first | rfl | assumption) (by first | (simp only [mkA_cons, mkA_nil, List.setIfInBounds_toArray, List.set_cons_zero, List.set_cons_succ, *]; done) | (simp only [mkA_cons, mkA_nil, List.setIfInBounds_toArray, List.set_cons_zero, List.set_cons_succ, *]; rfl))
        refine stepsM_cons (j := 9) rfl ?_ ?_
        · intro L ρ own u hS K hK
          have e7 := hS.fact 7 rfl rfl (by kernel_rfl)
          change ρ 46 = _ at e7
          have tc := hfun u hS.inv.1
          have tl := hlt5 u hS.inv.1
          simp only [mkA_cons, mkA_nil, List.setIfInBounds_toArray, List.set_cons_zero, List.set_cons_succ]
          go_wp2_with fail
          exact hS.val rfl rfl (by kernel_rfl) (by (show Grew _ _; (try simp only [← Array.append_assoc]); repeat (first | (with_reducible exact Grew.same_o) | (with_reducible exact Grew.refl _) | (with_reducible assumption) | (with_reducible refine Grew.alloc ?_ _) | (with_reducible refine Grew.app_r ?_) | ((with_reducible refine Grew.setCell ?_ ?_ _); rotate_left; (focus (dsimp only; first | omega | (simp only [size_ext, World.size_alloc, Array.size_append]; omega)))) | (with_reducible refine Grew.ext ?_ _ _) | (with_reducible refine Grew.drewN ?_ _) | (with_reducible refine Grew.drew ?_)))) (by first | rfl | assumption) (by first | (simp only [mkA_cons, mkA_nil, List.setIfInBounds_toArray, List.set_cons_zero, List.set_cons_succ, *]; done) | (simp only [mkA_cons, mkA_nil, List.setIfInBounds_toArray, List.set_cons_zero, List.set_cons_succ, *]; rfl))
        refine stepsM_cons (j := 10) rfl ?_ ?_
        · intro L ρ own u hS K hK
          have tc := hfun u hS.inv.1
          have tl := hlt5 u hS.inv.1
          simp only [mkA_cons, mkA_nil, List.setIfInBounds_toArray, List.set_cons_zero, List.set_cons_succ]
          go_wp2_with fail
          exact hS.val rfl rfl (by kernel_rfl) (by (show Grew _ _; (try simp only [← Array.append_assoc]); repeat (first | (with_reducible exact Grew.same_o) | (with_reducible exact Grew.refl _) | (with_reducible assumption) | (with_reducible refine Grew.alloc ?_ _) | (with_reducible refine Grew.app_r ?_) | ((with_reducible refine Grew.setCell ?_ ?_ _); rotate_left; (focus (dsimp only; first | omega | (simp only [size_ext, World.size_alloc, Array.size_append]; omega)))) | (with_reducible refine Grew.ext ?_ _ _) | (with_reducible refine Grew.drewN ?_ _) | (with_reducible refine Grew.drew ?_)))) (by first | rfl | assumption) (by first | (simp only [mkA_cons, mkA_nil, List.setIfInBounds_toArray, List.set_cons_zero, List.set_cons_succ, *]; done) | (simp only [mkA_cons, mkA_nil, List.setIfInBounds_toArray, List.set_cons_zero, List.set_cons_succ, *]; rfl))
        refine stepsM_cons (j := 11) rfl ?_ ?_
        · intro L ρ own u hS K hK
          have e9 := hS.fact 9 rfl rfl (by kernel_rfl)
          change ρ 48 = _ at e9
          have tc := hfun u hS.inv.1
          have tl := hlt5 u hS.inv.1
          simp only [mkA_cons, mkA_nil, List.setIfInBounds_toArray, List.set_cons_zero, List.set_cons_succ]
          go_wp2_with fail
          exact hS.val rfl rfl (by kernel_rfl) (by (show Grew _ _; (try simp only [← Array.append_assoc]); repeat (first | (with_reducible exact Grew.same_o) | (with_reducible exact Grew.refl _) | (with_reducible assumption) | (with_reducible refine Grew.alloc ?_ _) | (with_reducible refine Grew.app_r ?_) | ((with_reducible refine Grew.setCell ?_ ?_ _); rotate_left; (focus (dsimp only; first | omega | (simp only [size_ext, World.size_alloc, Array.size_append]; omega)))) | (with_reducible refine Grew.ext ?_ _ _) | (with_reducible refine Grew.drewN ?_ _) | (with_reducible refine Grew.drew ?_)))) (by first | rfl | assumption) (by first | (simp only [mkA_cons, mkA_nil, List.setIfInBounds_toArray, List.set_cons_zero, List.set_cons_succ, *]; done) | (simp only [mkA_cons, mkA_nil, List.setIfInBounds_toArray, List.set_cons_zero, List.set_cons_succ, *]; rfl))
        refine stepsM_cons (j := 12) rfl ?_ ?_
        · intro L ρ own u hS K hK
          obtain ⟨g5, c5, e5, z5, o5, L5, F5, l5, w5⟩ := hS.fact 5 rfl rfl (by kernel_rfl)
          change ρ 44 = _ at e5
          have e6 := hS.fact 6 rfl rfl (by kernel_rfl)
          change ρ 45 = _ at e6
          have e8 := hS.fact 8 rfl rfl (by kernel_rfl)
          change ρ 47 = _ at e8
          have e10 := hS.fact 10 rfl rfl (by kernel_rfl)
          change ρ 49 = _ at e10
          have tc := hfun u hS.inv.1
          have tl := hlt5 u hS.inv.1
          simp only [mkA_cons, mkA_nil, List.setIfInBounds_toArray, List.set_cons_zero, List.set_cons_succ]
          go_wp2_with (first | (go_at_call 86; ((with_reducible refine (hmk u r1 r2 (by omega) (by omega) (by omega) (by omega) hS.inv).mono ?_); rintro e w1 ⟨g, LL, rfl, hz1, hF1, hl1, hw1, hb1, hi1⟩)))
          exact hS.row rfl rfl (by kernel_rfl) (Kept.but hb1 (by intro k hk; simp at hk; omega)) (hi1) (hz1) (hF1) (hl1) (hw1) (by first | (simp only [mkA_cons, mkA_nil, List.setIfInBounds_toArray, List.set_cons_zero, List.set_cons_succ, *]; done) | (simp only [mkA_cons, mkA_nil, List.setIfInBounds_toArray, List.set_cons_zero, List.set_cons_succ, *]; rfl))
        refine stepsM_cons (j := 13) rfl ?_ ?_
        · intro L ρ own u hS K hK
          have tc := hfun u hS.inv.1
          have tl := hlt5 u hS.inv.1
          simp only [mkA_cons, mkA_nil, List.setIfInBounds_toArray, List.set_cons_zero, List.set_cons_succ]
          go_wp2_with fail
          exact hS.val rfl rfl (by kernel_rfl) (by (show Grew _ _; (try simp only [← Array.append_assoc]); repeat (first | (with_reducible exact Grew.same_o) | (with_reducible exact Grew.refl _) | (with_reducible assumption) | (with_reducible refine Grew.alloc ?_ _) | (with_reducible refine Grew.app_r ?_) | ((with_reducible refine Grew.setCell ?_ ?_ _); rotate_left; (focus (dsimp only; first | omega | (simp only [size_ext, World.size_alloc, Array.size_append]; omega)))) | (with_reducible refine Grew.ext ?_ _ _) | (with_reducible refine Grew.drewN ?_ _) | (with_reducible refine Grew.drew ?_)))) (by first | rfl | assumption) (by first | (simp only [mkA_cons, mkA_nil, List.setIfInBounds_toArray, List.set_cons_zero, List.set_cons_succ, *]; done) | (simp only [mkA_cons, mkA_nil, List.setIfInBounds_toArray, List.set_cons_zero, List.set_cons_succ, *]; rfl))
        refine stepsM_cons (j := 14) rfl ?_ ?_
        · intro L ρ own u hS K hK
          have tc := hfun u hS.inv.1
          have tl := hlt5 u hS.inv.1
          simp only [mkA_cons, mkA_nil, List.setIfInBounds_toArray, List.set_cons_zero, List.set_cons_succ]
          go_wp2_with fail
          exact hS.val rfl rfl (by kernel_rfl) (by (show Grew _ _; (try simp only [← Array.append_assoc]); repeat (first | (with_reducible exact Grew.same_o) | (with_reducible exact Grew.refl _) | (with_reducible assumption) | (with_reducible refine Grew.alloc ?_ _) | (with_reducible refine Grew.app_r ?_) | ((with_reducible refine Grew.setCell ?_ ?_ _); rotate_left; (focus (dsimp only; first | omega | (simp only [size_ext, World.size_alloc, Array.size_append]; omega)))) | (with_reducible refine Grew.ext ?_ _ _) | (with_reducible refine Grew.drewN ?_ _) | (with_reducible refine Grew.drew ?_)))) (by first | rfl | assumption) (by first | (simp only [mkA_cons, mkA_nil, List.setIfInBounds_toArray, List.set_cons_zero, List.set_cons_succ, *]; done) | (simp only [mkA_cons, mkA_nil, List.setIfInBounds_toArray, List.set_cons_zero, List.set_cons_succ, *]; rfl))
        refine stepsM_cons (j := 15) rfl ?_ ?_
        · intro L ρ own u hS K hK
          have e13 := hS.fact 13 rfl rfl (by kernel_rfl)
          change ρ 52 = _ at e13
          have tc := hfun u hS.inv.1
          have tl := hlt5 u hS.inv.1
          simp only [mkA_cons, mkA_nil, List.setIfInBounds_toArray, List.set_cons_zero, List.set_cons_succ]
          go_wp2_with fail
          exact hS.val rfl rfl (by kernel_rfl) (by (show Grew _ _; (try simp only [← Array.append_assoc]); repeat (first | (with_reducible exact Grew.same_o) | (with_reducible exact Grew.refl _) | (with_reducible assumption) | (with_reducible refine Grew.alloc ?_ _) | (with_reducible refine Grew.app_r ?_) | ((with_reducible refine Grew.setCell ?_ ?_ _); rotate_left; (focus (dsimp only; first | omega | (simp only [size_ext, World.size_alloc, Array.size_append]; omega)))) | (with_reducible refine Grew.ext ?_ _ _) | (with_reducible refine Grew.drewN ?_ _) | (with_reducible refine Grew.drew ?_)))) (by first | rfl | assumption) (by first | (simp only [mkA_cons, mkA_nil, List.setIfInBounds_toArray, List.set_cons_zero, List.set_cons_succ, *]; done) | (simp only [mkA_cons, mkA_nil, List.setIfInBounds_toArray, List.set_cons_zero, List.set_cons_succ, *]; rfl))
        refine stepsM_cons (j := 16) rfl ?_ ?_
        · intro L ρ own u hS K hK
          have tc := hfun u hS.inv.1
          have tl := hlt5 u hS.inv.1
          simp only [mkA_cons, mkA_nil, List.setIfInBounds_toArray, List.set_cons_zero, List.set_cons_succ]
          go_wp2_with fail
          exact hS.val rfl rfl (by kernel_rfl) (by (show Grew _ _; (try simp only [← Array.append_assoc]); repeat (first | (with_reducible exact Grew.same_o) | (with_reducible exact Grew.refl _) | (with_reducible assumption) | (with_reducible refine Grew.alloc ?_ _) | (with_reducible refine Grew.app_r ?_) | ((with_reducible refine Grew.setCell ?_ ?_ _); rotate_left; (focus (dsimp only; first | omega | (simp only [size_ext, World.size_alloc, Array.size_append]; omega)))) | (with_reducible refine Grew.ext ?_ _ _) | (with_reducible refine Grew.drewN ?_ _) | (with_reducible refine Grew.drew ?_)))) (by first | rfl | assumption) (by first | (simp only [mkA_cons, mkA_nil, List.setIfInBounds_toArray, List.set_cons_zero, List.set_cons_succ, *]; done) | (simp only [mkA_cons, mkA_nil, List.setIfInBounds_toArray, List.set_cons_zero, List.set_cons_succ, *]; rfl))
        refine stepsM_cons (j := 17) rfl ?_ ?_
        · intro L ρ own u hS K hK
          have e15 := hS.fact 15 rfl rfl (by kernel_rfl)
          change ρ 54 = _ at e15
          have tc := hfun u hS.inv.1
          have tl := hlt5 u hS.inv.1
          simp only [mkA_cons, mkA_nil, List.setIfInBounds_toArray, List.set_cons_zero, List.set_cons_succ]
          go_wp2_with fail
          exact hS.val rfl rfl (by kernel_rfl) (by (show Grew _ _; (try simp only [← Array.append_assoc]); repeat (first | (with_reducible exact Grew.same_o) | (with_reducible exact Grew.refl _) | (with_reducible assumption) | (with_reducible refine Grew.alloc ?_ _) | (with_reducible refine Grew.app_r ?_) | ((with_reducible refine Grew.setCell ?_ ?_ _); rotate_left; (focus (dsimp only; first | omega | (simp only [size_ext, World.size_alloc, Array.size_append]; omega)))) | (with_reducible refine Grew.ext ?_ _ _) | (with_reducible refine Grew.drewN ?_ _) | (with_reducible refine Grew.drew ?_)))) (by first | rfl | assumption) (by first | (simp only [mkA_cons, mkA_nil, List.setIfInBounds_toArray, List.set_cons_zero, List.set_cons_succ, *]; done) | (simp only [mkA_cons, mkA_nil, List.setIfInBounds_toArray, List.set_cons_zero, List.set_cons_succ, *]; rfl))
        refine stepsM_cons (j := 18) rfl ?_ ?_
        · intro L ρ own u hS K hK
          obtain ⟨g11, c11, e11, z11, o11, L11, F11, l11, w11⟩ := hS.fact 11 rfl rfl (by kernel_rfl)
          change ρ 50 = _ at e11
          have e12 := hS.fact 12 rfl rfl (by kernel_rfl)
          change ρ 51 = _ at e12
          have e14 := hS.fact 14 rfl rfl (by kernel_rfl)
          change ρ 53 = _ at e14
          have e16 := hS.fact 16 rfl rfl (by kernel_rfl)
          change ρ 55 = _ at e16
          have tc := hfun u hS.inv.1
          have tl := hlt5 u hS.inv.1
          simp only [mkA_cons, mkA_nil, List.setIfInBounds_toArray, List.set_cons_zero, List.set_cons_succ]
          go_wp2_with (first | (go_at_call 86; ((with_reducible refine (hmk u r2 r3 (by omega) (by omega) (by omega) (by omega) hS.inv).mono ?_); rintro e w1 ⟨g, LL, rfl, hz1, hF1, hl1, hw1, hb1, hi1⟩)))
          exact hS.row rfl rfl (by kernel_rfl) (Kept.but hb1 (by intro k hk; simp at hk; omega)) (hi1) (hz1) (hF1) (hl1) (hw1) (by first | (simp only [mkA_cons, mkA_nil, List.setIfInBounds_toArray, List.set_cons_zero, List.set_cons_succ, *]; done) | (simp only [mkA_cons, mkA_nil, List.setIfInBounds_toArray, List.set_cons_zero, List.set_cons_succ, *]; rfl))
        refine stepsM_cons (j := 19) rfl ?_ ?_
        · intro L ρ own u hS K hK
          simp only [mkA_cons, mkA_nil, List.setIfInBounds_toArray, List.set_cons_zero, List.set_cons_succ]
          go_wp2_with fail
          exact hS.box rfl rfl (by kernel_rfl) rfl (by first | (simp only [mkA_cons, mkA_nil, List.setIfInBounds_toArray, List.set_cons_zero, List.set_cons_succ, *]; done) | (simp only [mkA_cons, mkA_nil, List.setIfInBounds_toArray, List.set_cons_zero, List.set_cons_succ, *]; rfl))
        refine stepsM_cons (j := 20) rfl ?_ ?_
        · intro L ρ own u hS K hK
          simp only [mkA_cons, mkA_nil, List.setIfInBounds_toArray, List.set_cons_zero, List.set_cons_succ]
          go_wp2_with fail
          exact hS.box rfl rfl (by kernel_rfl) rfl (by first | (simp only [mkA_cons, mkA_nil, List.setIfInBounds_toArray, List.set_cons_zero, List.set_cons_succ, *]; done) | (simp only [mkA_cons, mkA_nil, List.setIfInBounds_toArray, List.set_cons_zero, List.set_cons_succ, *]; rfl))
        refine stepsM_cons (j := 21) rfl ?_ ?_
        · intro L ρ own u hS K hK
          simp only [mkA_cons, mkA_nil, List.setIfInBounds_toArray, List.set_cons_zero, List.set_cons_succ]
          go_wp2_with fail
          exact hS.box rfl rfl (by kernel_rfl) rfl (by first | (simp only [mkA_cons, mkA_nil, List.setIfInBounds_toArray, List.set_cons_zero, List.set_cons_succ, *]; done) | (simp only [mkA_cons, mkA_nil, List.setIfInBounds_toArray, List.set_cons_zero, List.set_cons_succ, *]; rfl))
        refine stepsM_cons (j := 22) rfl ?_ ?_
        · intro L ρ own u hS K hK
          exact hS.put (kb := 18) (kr := 5) rfl rfl (by kernel_rfl) (by decide) (fun _ => rfl) rfl rfl (by kernel_rfl) rfl rfl rfl (by kernel_rfl) rfl (fun _ => rfl) rfl (by simp only [mkA_cons, mkA_nil, List.setIfInBounds_toArray, List.set_cons_zero, List.set_cons_succ]; rfl) (by simp only [mkA_cons, mkA_nil, List.setIfInBounds_toArray, List.set_cons_zero, List.set_cons_succ]; rfl) (by kernel_rfl) (fun _ _ _ => by kernel_rfl) hK
        refine stepsM_cons (j := 23) rfl ?_ ?_
        · intro L ρ own u hS K hK
          exact hS.put (kb := 19) (kr := 11) rfl rfl (by kernel_rfl) (by decide) (fun _ => rfl) rfl rfl (by kernel_rfl) rfl rfl rfl (by kernel_rfl) rfl (fun _ => rfl) rfl (by simp only [mkA_cons, mkA_nil, List.setIfInBounds_toArray, List.set_cons_zero, List.set_cons_succ]; rfl) (by simp only [mkA_cons, mkA_nil, List.setIfInBounds_toArray, List.set_cons_zero, List.set_cons_succ]; rfl) (by kernel_rfl) (fun _ _ _ => by kernel_rfl) hK
        refine stepsM_cons (j := 24) rfl ?_ ?_
        · intro L ρ own u hS K hK
          exact hS.put (kb := 20) (kr := 17) rfl rfl (by kernel_rfl) (by decide) (fun _ => rfl) rfl rfl (by kernel_rfl) rfl rfl rfl (by kernel_rfl) rfl (fun _ => rfl) rfl (by simp only [mkA_cons, mkA_nil, List.setIfInBounds_toArray, List.set_cons_zero, List.set_cons_succ]; rfl) (by simp only [mkA_cons, mkA_nil, List.setIfInBounds_toArray, List.set_cons_zero, List.set_cons_succ]; rfl) (by kernel_rfl) (fun _ _ _ => by kernel_rfl) hK
        exact stepsM_nil
      obtain ⟨p21, g21, c21, E21, e21, ow21, zl21, bx21, gz21, gB21, L21, F21, l21, w21⟩ := hF 21 _ _ rfl rfl
      have Bx21 := boxOf bx21
      change ρ 9 = _ at e21
      obtain ⟨p22, g22, c22, E22, e22, ow22, zl22, bx22, gz22, gB22, L22, F22, l22, w22⟩ := hF 22 _ _ rfl rfl
      have Bx22 := boxOf bx22
      change ρ 10 = _ at e22
      obtain ⟨p23, g23, c23, E23, e23, ow23, zl23, bx23, gz23, gB23, L23, F23, l23, w23⟩ := hF 23 _ _ rfl rfl
      have Bx23 := boxOf bx23
      change ρ 11 = _ at e23
      have y0 := hF 0 _ _ rfl rfl
      change ρ 39 = _ at y0
      have y1 := hF 1 _ _ rfl rfl
      change ρ 40 = _ at y1
      have y2 := hF 2 _ _ rfl rfl
      change ρ 41 = _ at y2
      have y3 := hF 3 _ _ rfl rfl
      change ρ 42 = _ at y3
      have y4 := hF 4 _ _ rfl rfl
      change ρ 43 = _ at y4
      have y6 := hF 6 _ _ rfl rfl
      change ρ 45 = _ at y6
      have y7 := hF 7 _ _ rfl rfl
      change ρ 46 = _ at y7
      have y8 := hF 8 _ _ rfl rfl
      change ρ 47 = _ at y8
      have y9 := hF 9 _ _ rfl rfl
      change ρ 48 = _ at y9
      have y10 := hF 10 _ _ rfl rfl
      change ρ 49 = _ at y10
      have y12 := hF 12 _ _ rfl rfl
      change ρ 51 = _ at y12
      have y13 := hF 13 _ _ rfl rfl
      change ρ 52 = _ at y13
      have y14 := hF 14 _ _ rfl rfl
      change ρ 53 = _ at y14
      have y15 := hF 15 _ _ rfl rfl
      change ρ 54 = _ at y15
      have y16 := hF 16 _ _ rfl rfl
      change ρ 55 = _ at y16
      simp only [mkA_cons, mkA_nil, List.setIfInBounds_toArray, List.set_cons_zero, List.set_cons_succ, e21, e22, e23, y0, y1, y2, y3, y4, y6, y7, y8, y9, y10, y12, y13, y14, y15, y16]
      have gwV : Grew w V := hI.1.grew0 gwX (by intro k hk; simp at hk; omega)
      obtain ⟨fa, ma⟩ := w21.mi l21
      obtain ⟨fb, mb⟩ := w22.mi l22
      obtain ⟨fc, mc⟩ := w23.mi l23
      have Pa : Box V p21 #[.slice (some ⟨g21, 0, none⟩) (r0 * r1) c21, .int .i64 0, .int .i64 r0, .int .i64 r1, .int .i64 r0] := Bx21
      have Pb : Box V p22 #[.slice (some ⟨g22, 0, none⟩) (r1 * r2) c22, .int .i64 0, .int .i64 r1, .int .i64 r2, .int .i64 r1] := Bx22
      have Pc : Box V p23 #[.slice (some ⟨g23, 0, none⟩) (r2 * r3) c23, .int .i64 0, .int .i64 r2, .int .i64 r3, .int .i64 r2] := Bx23
      have Fa : FW V g21 L21 := F21
      have Fb : FW V g22 L22 := F22
      have Fc : FW V g23 L23 := F23
      clear hF Bx21 Bx22 Bx23 F21 F22 F23 bx21 bx22 bx23 e21 e22 e23 y0 y1 y2 y3 y4 y6 y7 y8 y9 y10 y12 y13 y14 y15 y16 hmk hth hfun hlt5 hLk hI B5X B2X B7 w21 w22 w23 l21 l22 l23
      have t1 := Pa.cell
      have t2 := Pb.cell
      have t3 := Pc.cell
      have k1 := Pa.lt
      have k2 := Pb.lt
      have k3 := Pc.lt
      -- W13
      have zz1 := gwV.below.size
      go_upto_region 13 with (first | (go_at_call 46; ((with_reducible refine (good_mi ma R0 R1 (Fa.grew (by (show Grew _ _; (try simp only [← Array.append_assoc]); repeat (first | (with_reducible exact Grew.same_o) | (with_reducible exact Grew.refl _) | (with_reducible assumption) | (with_reducible refine Grew.alloc ?_ _) | (with_reducible refine Grew.app_r ?_) | ((with_reducible refine Grew.setCell ?_ ?_ _); rotate_left; (focus (dsimp only; first | omega | (simp only [size_ext, World.size_alloc, Array.size_append]; omega)))) | (with_reducible refine Grew.ext ?_ _ _) | (with_reducible refine Grew.drewN ?_ _) | (with_reducible refine Grew.drew ?_))))) _).mono ?_); rintro e w1 ⟨rfl, oa, na, rfl⟩)) | (go_at_call 46; ((with_reducible refine (good_mi mb R1 R2 (Fb.grew (by (show Grew _ _; (try simp only [← Array.append_assoc]); repeat (first | (with_reducible exact Grew.same_o) | (with_reducible exact Grew.refl _) | (with_reducible assumption) | (with_reducible refine Grew.alloc ?_ _) | (with_reducible refine Grew.app_r ?_) | ((with_reducible refine Grew.setCell ?_ ?_ _); rotate_left; (focus (dsimp only; first | omega | (simp only [size_ext, World.size_alloc, Array.size_append]; omega)))) | (with_reducible refine Grew.ext ?_ _ _) | (with_reducible refine Grew.drewN ?_ _) | (with_reducible refine Grew.drew ?_))))) _).mono ?_); rintro e w1 ⟨rfl, ob, nb, rfl⟩)) | (go_at_call 46; ((with_reducible refine (good_mi mc R2 R3 (Fc.grew (by (show Grew _ _; (try simp only [← Array.append_assoc]); repeat (first | (with_reducible exact Grew.same_o) | (with_reducible exact Grew.refl _) | (with_reducible assumption) | (with_reducible refine Grew.alloc ?_ _) | (with_reducible refine Grew.app_r ?_) | ((with_reducible refine Grew.setCell ?_ ?_ _); rotate_left; (focus (dsimp only; first | omega | (simp only [size_ext, World.size_alloc, Array.size_append]; omega)))) | (with_reducible refine Grew.ext ?_ _ _) | (with_reducible refine Grew.drewN ?_ _) | (with_reducible refine Grew.drew ?_))))) _).mono ?_); rintro e w1 ⟨rfl, oc, nc, rfl⟩)))
      refine name_any (fun U0 hU0 => ?_)
      have gU0 : Grew V U0 := by rw [← hU0]; (show Grew _ _; (try simp only [← Array.append_assoc]); repeat (first | (with_reducible exact Grew.same_o) | (with_reducible exact Grew.refl _) | (with_reducible assumption) | (with_reducible refine Grew.alloc ?_ _) | (with_reducible refine Grew.app_r ?_) | ((with_reducible refine Grew.setCell ?_ ?_ _); rotate_left; (focus (dsimp only; first | omega | (simp only [size_ext, World.size_alloc, Array.size_append]; omega)))) | (with_reducible refine Grew.ext ?_ _ _) | (with_reducible refine Grew.drewN ?_ _) | (with_reducible refine Grew.drew ?_)))
      replace Pa := Pa.grew gU0
      replace Pb := Pb.grew gU0
      replace Pc := Pc.grew gU0
      replace Fa := Fa.grew gU0
      replace Fb := Fb.grew gU0
      replace Fc := Fc.grew gU0
      have gwU0 := Grew.trans gwV gU0
      clear hU0 gwV t1 t2 t3 k1 k2 k3
      have t1 := Pa.cell
      have k1 := Pa.lt
      have t2 := Pb.cell
      have k2 := Pb.lt
      have t3 := Pc.cell
      have k3 := Pc.lt
      go_upto_region 14 with (first | (go_at_call 87; ((with_reducible refine (prod_mi (ca := c21) (cb := c22) ma mb R0 R1 R2 (by decide) (by decide) (Fa.grew (by (show Grew _ _; (try simp only [← Array.append_assoc]); repeat (first | (with_reducible exact Grew.same_o) | (with_reducible exact Grew.refl _) | (with_reducible assumption) | (with_reducible refine Grew.alloc ?_ _) | (with_reducible refine Grew.app_r ?_) | ((with_reducible refine Grew.setCell ?_ ?_ _); rotate_left; (focus (dsimp only; first | omega | (simp only [size_ext, World.size_alloc, Array.size_append]; omega)))) | (with_reducible refine Grew.ext ?_ _ _) | (with_reducible refine Grew.drewN ?_ _) | (with_reducible refine Grew.drew ?_))))) (Fb.grew (by (show Grew _ _; (try simp only [← Array.append_assoc]); repeat (first | (with_reducible exact Grew.same_o) | (with_reducible exact Grew.refl _) | (with_reducible assumption) | (with_reducible refine Grew.alloc ?_ _) | (with_reducible refine Grew.app_r ?_) | ((with_reducible refine Grew.setCell ?_ ?_ _); rotate_left; (focus (dsimp only; first | omega | (simp only [size_ext, World.size_alloc, Array.size_append]; omega)))) | (with_reducible refine Grew.ext ?_ _ _) | (with_reducible refine Grew.drewN ?_ _) | (with_reducible refine Grew.drew ?_))))) (Box.new' rfl)).mono ?_); rintro e w1 ⟨kab, Lab, rfl, zab, Fab, mab, oab, nab, rfl⟩)))
      refine name_any (fun U1 hU1 => ?_)
      have gU1 : Grew U0 U1 := by rw [← hU1]; (show Grew _ _; (try simp only [← Array.append_assoc]); repeat (first | (with_reducible exact Grew.same_o) | (with_reducible exact Grew.refl _) | (with_reducible assumption) | (with_reducible refine Grew.alloc ?_ _) | (with_reducible refine Grew.app_r ?_) | ((with_reducible refine Grew.setCell ?_ ?_ _); rotate_left; (focus (dsimp only; first | omega | (simp only [size_ext, World.size_alloc, Array.size_append]; omega)))) | (with_reducible refine Grew.ext ?_ _ _) | (with_reducible refine Grew.drewN ?_ _) | (with_reducible refine Grew.drew ?_)))
      obtain ⟨qab, hqab⟩ : ∃ p, p = U0.heap.size + 1 + oab.size := ⟨_, rfl⟩
      have Pab : Box U1 qab #[.slice (some ⟨kab, 0, none⟩) (r0 * r2) (r0 * r2), .int .i64 0, .int .i64 r0, .int .i64 r2, .int .i64 r0] := by rw [← hU1]; exact Box.new' (by rw [hqab]; simp only [size_ext, World.size_alloc])
      replace Fab : FW U1 kab Lab := by rw [← hU1]; exact Fab.grew (by (show Grew _ _; (try simp only [← Array.append_assoc]); repeat (first | (with_reducible exact Grew.same_o) | (with_reducible exact Grew.refl _) | (with_reducible assumption) | (with_reducible refine Grew.alloc ?_ _) | (with_reducible refine Grew.app_r ?_) | ((with_reducible refine Grew.setCell ?_ ?_ _); rotate_left; (focus (dsimp only; first | omega | (simp only [size_ext, World.size_alloc, Array.size_append]; omega)))) | (with_reducible refine Grew.ext ?_ _ _) | (with_reducible refine Grew.drewN ?_ _) | (with_reducible refine Grew.drew ?_))))
      simp only [← hqab]
      clear zab
      replace Pa := Pa.grew gU1
      replace Pb := Pb.grew gU1
      replace Pc := Pc.grew gU1
      replace Fa := Fa.grew gU1
      replace Fb := Fb.grew gU1
      replace Fc := Fc.grew gU1
      have gwU1 := Grew.trans gwU0 gU1
      clear hU1 gwU0 t1 t2 t3 k1 k2 k3
      clear hqab
      have t1 := Pb.cell
      have k1 := Pb.lt
      have t2 := Pc.cell
      have k2 := Pc.lt
      have t3 := Pa.cell
      have k3 := Pa.lt
      go_upto_region 15 with (first | (go_at_call 87; ((with_reducible refine (prod_mi (ca := c22) (cb := c23) mb mc R1 R2 R3 (by decide) (by decide) (Fb.grew (by (show Grew _ _; (try simp only [← Array.append_assoc]); repeat (first | (with_reducible exact Grew.same_o) | (with_reducible exact Grew.refl _) | (with_reducible assumption) | (with_reducible refine Grew.alloc ?_ _) | (with_reducible refine Grew.app_r ?_) | ((with_reducible refine Grew.setCell ?_ ?_ _); rotate_left; (focus (dsimp only; first | omega | (simp only [size_ext, World.size_alloc, Array.size_append]; omega)))) | (with_reducible refine Grew.ext ?_ _ _) | (with_reducible refine Grew.drewN ?_ _) | (with_reducible refine Grew.drew ?_))))) (Fc.grew (by (show Grew _ _; (try simp only [← Array.append_assoc]); repeat (first | (with_reducible exact Grew.same_o) | (with_reducible exact Grew.refl _) | (with_reducible assumption) | (with_reducible refine Grew.alloc ?_ _) | (with_reducible refine Grew.app_r ?_) | ((with_reducible refine Grew.setCell ?_ ?_ _); rotate_left; (focus (dsimp only; first | omega | (simp only [size_ext, World.size_alloc, Array.size_append]; omega)))) | (with_reducible refine Grew.ext ?_ _ _) | (with_reducible refine Grew.drewN ?_ _) | (with_reducible refine Grew.drew ?_))))) (Box.new' rfl)).mono ?_); rintro e w1 ⟨kbc, Lbc, rfl, zbc, Fbc, mbc, obc, nbc, rfl⟩)))
      refine name_any (fun U2 hU2 => ?_)
      have gU2 : Grew U1 U2 := by rw [← hU2]; (show Grew _ _; (try simp only [← Array.append_assoc]); repeat (first | (with_reducible exact Grew.same_o) | (with_reducible exact Grew.refl _) | (with_reducible assumption) | (with_reducible refine Grew.alloc ?_ _) | (with_reducible refine Grew.app_r ?_) | ((with_reducible refine Grew.setCell ?_ ?_ _); rotate_left; (focus (dsimp only; first | omega | (simp only [size_ext, World.size_alloc, Array.size_append]; omega)))) | (with_reducible refine Grew.ext ?_ _ _) | (with_reducible refine Grew.drewN ?_ _) | (with_reducible refine Grew.drew ?_)))
      obtain ⟨qbc, hqbc⟩ : ∃ p, p = U1.heap.size + 1 + obc.size := ⟨_, rfl⟩
      have Pbc : Box U2 qbc #[.slice (some ⟨kbc, 0, none⟩) (r1 * r3) (r1 * r3), .int .i64 0, .int .i64 r1, .int .i64 r3, .int .i64 r1] := by rw [← hU2]; exact Box.new' (by rw [hqbc]; simp only [size_ext, World.size_alloc])
      replace Fbc : FW U2 kbc Lbc := by rw [← hU2]; exact Fbc.grew (by (show Grew _ _; (try simp only [← Array.append_assoc]); repeat (first | (with_reducible exact Grew.same_o) | (with_reducible exact Grew.refl _) | (with_reducible assumption) | (with_reducible refine Grew.alloc ?_ _) | (with_reducible refine Grew.app_r ?_) | ((with_reducible refine Grew.setCell ?_ ?_ _); rotate_left; (focus (dsimp only; first | omega | (simp only [size_ext, World.size_alloc, Array.size_append]; omega)))) | (with_reducible refine Grew.ext ?_ _ _) | (with_reducible refine Grew.drewN ?_ _) | (with_reducible refine Grew.drew ?_))))
      simp only [← hqbc]
      clear zbc
      replace Pa := Pa.grew gU2
      replace Pb := Pb.grew gU2
      replace Pc := Pc.grew gU2
      replace Pab := Pab.grew gU2
      replace Fa := Fa.grew gU2
      replace Fb := Fb.grew gU2
      replace Fc := Fc.grew gU2
      replace Fab := Fab.grew gU2
      have gwU2 := Grew.trans gwU1 gU2
      clear hU2 gwU1 t1 t2 t3 k1 k2 k3
      clear hqbc
      have t1 := Pab.cell
      have k1 := Pab.lt
      have t2 := Pc.cell
      have k2 := Pc.lt
      have t3 := Pa.cell
      have k3 := Pa.lt
      go_upto_region 16 with (first | (go_at_call 87; ((with_reducible refine (prod_mi (ca := (r0 * r2)) (cb := c23) mab mc R0 R2 R3 (by decide) (by decide) (Fab.grew (by (show Grew _ _; (try simp only [← Array.append_assoc]); repeat (first | (with_reducible exact Grew.same_o) | (with_reducible exact Grew.refl _) | (with_reducible assumption) | (with_reducible refine Grew.alloc ?_ _) | (with_reducible refine Grew.app_r ?_) | ((with_reducible refine Grew.setCell ?_ ?_ _); rotate_left; (focus (dsimp only; first | omega | (simp only [size_ext, World.size_alloc, Array.size_append]; omega)))) | (with_reducible refine Grew.ext ?_ _ _) | (with_reducible refine Grew.drewN ?_ _) | (with_reducible refine Grew.drew ?_))))) (Fc.grew (by (show Grew _ _; (try simp only [← Array.append_assoc]); repeat (first | (with_reducible exact Grew.same_o) | (with_reducible exact Grew.refl _) | (with_reducible assumption) | (with_reducible refine Grew.alloc ?_ _) | (with_reducible refine Grew.app_r ?_) | ((with_reducible refine Grew.setCell ?_ ?_ _); rotate_left; (focus (dsimp only; first | omega | (simp only [size_ext, World.size_alloc, Array.size_append]; omega)))) | (with_reducible refine Grew.ext ?_ _ _) | (with_reducible refine Grew.drewN ?_ _) | (with_reducible refine Grew.drew ?_))))) (Box.new' rfl)).mono ?_); rintro e w1 ⟨kx, Lx, rfl, zx, Fx, mx, ox, nx, rfl⟩)))
      refine name_any (fun U3 hU3 => ?_)
      have gU3 : Grew U2 U3 := by rw [← hU3]; (show Grew _ _; (try simp only [← Array.append_assoc]); repeat (first | (with_reducible exact Grew.same_o) | (with_reducible exact Grew.refl _) | (with_reducible assumption) | (with_reducible refine Grew.alloc ?_ _) | (with_reducible refine Grew.app_r ?_) | ((with_reducible refine Grew.setCell ?_ ?_ _); rotate_left; (focus (dsimp only; first | omega | (simp only [size_ext, World.size_alloc, Array.size_append]; omega)))) | (with_reducible refine Grew.ext ?_ _ _) | (with_reducible refine Grew.drewN ?_ _) | (with_reducible refine Grew.drew ?_)))
      obtain ⟨qx, hqx⟩ : ∃ p, p = U2.heap.size + 1 + ox.size := ⟨_, rfl⟩
      have Px : Box U3 qx #[.slice (some ⟨kx, 0, none⟩) (r0 * r3) (r0 * r3), .int .i64 0, .int .i64 r0, .int .i64 r3, .int .i64 r0] := by rw [← hU3]; exact Box.new' (by rw [hqx]; simp only [size_ext, World.size_alloc])
      replace Fx : FW U3 kx Lx := by rw [← hU3]; exact Fx.grew (by (show Grew _ _; (try simp only [← Array.append_assoc]); repeat (first | (with_reducible exact Grew.same_o) | (with_reducible exact Grew.refl _) | (with_reducible assumption) | (with_reducible refine Grew.alloc ?_ _) | (with_reducible refine Grew.app_r ?_) | ((with_reducible refine Grew.setCell ?_ ?_ _); rotate_left; (focus (dsimp only; first | omega | (simp only [size_ext, World.size_alloc, Array.size_append]; omega)))) | (with_reducible refine Grew.ext ?_ _ _) | (with_reducible refine Grew.drewN ?_ _) | (with_reducible refine Grew.drew ?_))))
      simp only [← hqx]
      clear zx
      replace Pa := Pa.grew gU3
      replace Pb := Pb.grew gU3
      replace Pc := Pc.grew gU3
      replace Pab := Pab.grew gU3
      replace Pbc := Pbc.grew gU3
      replace Fa := Fa.grew gU3
      replace Fb := Fb.grew gU3
      replace Fc := Fc.grew gU3
      replace Fab := Fab.grew gU3
      replace Fbc := Fbc.grew gU3
      have gwU3 := Grew.trans gwU2 gU3
      clear hU3 gwU2 t1 t2 t3 k1 k2 k3
      clear hqx
      have t1 := Pa.cell
      have k1 := Pa.lt
      have t2 := Pbc.cell
      have k2 := Pbc.lt
      have t3 := Pc.cell
      have k3 := Pc.lt
      go_upto_region 17 with (first | (go_at_call 87; ((with_reducible refine (prod_mi (ca := c21) (cb := (r1 * r3)) ma mbc R0 R1 R3 (by decide) (by decide) (Fa.grew (by (show Grew _ _; (try simp only [← Array.append_assoc]); repeat (first | (with_reducible exact Grew.same_o) | (with_reducible exact Grew.refl _) | (with_reducible assumption) | (with_reducible refine Grew.alloc ?_ _) | (with_reducible refine Grew.app_r ?_) | ((with_reducible refine Grew.setCell ?_ ?_ _); rotate_left; (focus (dsimp only; first | omega | (simp only [size_ext, World.size_alloc, Array.size_append]; omega)))) | (with_reducible refine Grew.ext ?_ _ _) | (with_reducible refine Grew.drewN ?_ _) | (with_reducible refine Grew.drew ?_))))) (Fbc.grew (by (show Grew _ _; (try simp only [← Array.append_assoc]); repeat (first | (with_reducible exact Grew.same_o) | (with_reducible exact Grew.refl _) | (with_reducible assumption) | (with_reducible refine Grew.alloc ?_ _) | (with_reducible refine Grew.app_r ?_) | ((with_reducible refine Grew.setCell ?_ ?_ _); rotate_left; (focus (dsimp only; first | omega | (simp only [size_ext, World.size_alloc, Array.size_append]; omega)))) | (with_reducible refine Grew.ext ?_ _ _) | (with_reducible refine Grew.drewN ?_ _) | (with_reducible refine Grew.drew ?_))))) (Box.new' rfl)).mono ?_); rintro e w1 ⟨ky, Ly, rfl, zy, Fy, my, oy, ny, rfl⟩)))
      refine name_any (fun U4 hU4 => ?_)
      have gU4 : Grew U3 U4 := by rw [← hU4]; (show Grew _ _; (try simp only [← Array.append_assoc]); repeat (first | (with_reducible exact Grew.same_o) | (with_reducible exact Grew.refl _) | (with_reducible assumption) | (with_reducible refine Grew.alloc ?_ _) | (with_reducible refine Grew.app_r ?_) | ((with_reducible refine Grew.setCell ?_ ?_ _); rotate_left; (focus (dsimp only; first | omega | (simp only [size_ext, World.size_alloc, Array.size_append]; omega)))) | (with_reducible refine Grew.ext ?_ _ _) | (with_reducible refine Grew.drewN ?_ _) | (with_reducible refine Grew.drew ?_)))
      obtain ⟨qy, hqy⟩ : ∃ p, p = U3.heap.size + 1 + oy.size := ⟨_, rfl⟩
      have Py : Box U4 qy #[.slice (some ⟨ky, 0, none⟩) (r0 * r3) (r0 * r3), .int .i64 0, .int .i64 r0, .int .i64 r3, .int .i64 r0] := by rw [← hU4]; exact Box.new' (by rw [hqy]; simp only [size_ext, World.size_alloc])
      replace Fy : FW U4 ky Ly := by rw [← hU4]; exact Fy.grew (by (show Grew _ _; (try simp only [← Array.append_assoc]); repeat (first | (with_reducible exact Grew.same_o) | (with_reducible exact Grew.refl _) | (with_reducible assumption) | (with_reducible refine Grew.alloc ?_ _) | (with_reducible refine Grew.app_r ?_) | ((with_reducible refine Grew.setCell ?_ ?_ _); rotate_left; (focus (dsimp only; first | omega | (simp only [size_ext, World.size_alloc, Array.size_append]; omega)))) | (with_reducible refine Grew.ext ?_ _ _) | (with_reducible refine Grew.drewN ?_ _) | (with_reducible refine Grew.drew ?_))))
      simp only [← hqy]
      clear zy
      replace Pa := Pa.grew gU4
      replace Pb := Pb.grew gU4
      replace Pc := Pc.grew gU4
      replace Pab := Pab.grew gU4
      replace Pbc := Pbc.grew gU4
      replace Px := Px.grew gU4
      replace Fa := Fa.grew gU4
      replace Fb := Fb.grew gU4
      replace Fc := Fc.grew gU4
      replace Fab := Fab.grew gU4
      replace Fbc := Fbc.grew gU4
      replace Fx := Fx.grew gU4
      have gwU4 := Grew.trans gwU3 gU4
      clear hU4 gwU3 t1 t2 t3 k1 k2 k3
      clear hqy
      have t1 := Pa.cell
      have k1 := Pa.lt
      have t2 := Pb.cell
      have k2 := Pb.lt
      have t3 := Pc.cell
      have k3 := Pc.lt
      go_upto_region 19 with fail
      refine wp_region_JM [20, 21] (U4) (Grew U4) [.val (fun v => v = .agg #[.slice (some ⟨g21, 0, none⟩) (r0 * r1) c21, .int .i64 0, .int .i64 r0, .int .i64 r1, .int .i64 r0]), .row (fun s => .agg #[.int .i64 r0, .int .i64 r1, s]) (r0 * r1) (fun _ T => TI T r0 r1 fa 50), .row (fun s => .agg #[.int .i64 r1, .int .i64 r0, s]) (r1 * r0) (fun c T => c = r1 * r0 ∧ TI T r1 r0 (fun i j => fa j i) 50), .val (fun v => v = .agg #[.slice (some ⟨g22, 0, none⟩) (r1 * r2) c22, .int .i64 0, .int .i64 r1, .int .i64 r2, .int .i64 r1]), .row (fun s => .agg #[.int .i64 r1, .int .i64 r2, s]) (r1 * r2) (fun _ T => TI T r1 r2 fb 50), .row (fun s => .agg #[.int .i64 r2, .int .i64 r1, s]) (r2 * r1) (fun c T => c = r2 * r1 ∧ TI T r2 r1 (fun i j => fb j i) 50), .box 3, .box 3, .put 20 (fun s => #[.int .i64 r1, .int .i64 r0, s]) (r1 * r0) (fun c T => c = r1 * r0 ∧ TI T r1 r0 (fun i j => fa j i) 50), .put 21 (fun s => #[.int .i64 r2, .int .i64 r1, s]) (r2 * r1) (fun c T => c = r2 * r1 ∧ TI T r2 r1 (fun i j => fb j i) 50)] [112, 113, 114, 115, 116, 117, 20, 21] (Thru.grewW U4) (by kernel_rfl) (by kernel_rfl) (Grew.refl _) (by (show Grew _ _; (try simp only [← Array.append_assoc]); repeat (first | (with_reducible exact Grew.same_o) | (with_reducible exact Grew.refl _) | (with_reducible assumption) | (with_reducible refine Grew.alloc ?_ _) | (with_reducible refine Grew.app_r ?_) | ((with_reducible refine Grew.setCell ?_ ?_ _); rotate_left; (focus (dsimp only; first | omega | (simp only [size_ext, World.size_alloc, Array.size_append]; omega)))) | (with_reducible refine Grew.ext ?_ _ _) | (with_reducible refine Grew.drewN ?_ _) | (with_reducible refine Grew.drew ?_)))) ?_ (fun ρ own U5 hI gz hF => ?_)
      · refine stepsM_cons (j := 1) rfl ?_ ?_
        · intro L ρ own u hS K hK
          have ta := (Pa.grew hS.inv).cell
          have tb := (Pb.grew hS.inv).cell
          have la := (Pa.grew hS.inv).lt
          have lb := (Pb.grew hS.inv).lt
          simp only [mkA_cons, mkA_nil, List.setIfInBounds_toArray, List.set_cons_zero, List.set_cons_succ]
          go_wp2_with fail
          exact hS.val rfl rfl (by kernel_rfl) (by (show Grew _ _; (try simp only [← Array.append_assoc]); repeat (first | (with_reducible exact Grew.same_o) | (with_reducible exact Grew.refl _) | (with_reducible assumption) | (with_reducible refine Grew.alloc ?_ _) | (with_reducible refine Grew.app_r ?_) | ((with_reducible refine Grew.setCell ?_ ?_ _); rotate_left; (focus (dsimp only; first | omega | (simp only [size_ext, World.size_alloc, Array.size_append]; omega)))) | (with_reducible refine Grew.ext ?_ _ _) | (with_reducible refine Grew.drewN ?_ _) | (with_reducible refine Grew.drew ?_)))) (by first | rfl | assumption) (by first | (simp only [mkA_cons, mkA_nil, List.setIfInBounds_toArray, List.set_cons_zero, List.set_cons_succ, *]; done) | (simp only [mkA_cons, mkA_nil, List.setIfInBounds_toArray, List.set_cons_zero, List.set_cons_succ, *]; rfl))
        refine stepsM_cons (j := 2) rfl ?_ ?_
        · intro L ρ own u hS K hK
          have e0 := hS.fact 0 rfl rfl (by kernel_rfl)
          change ρ 112 = _ at e0
          have ta := (Pa.grew hS.inv).cell
          have tb := (Pb.grew hS.inv).cell
          have la := (Pa.grew hS.inv).lt
          have lb := (Pb.grew hS.inv).lt
          simp only [mkA_cons, mkA_nil, List.setIfInBounds_toArray, List.set_cons_zero, List.set_cons_succ]
          go_wp2_with (first | (go_at_call 48; ((with_reducible refine (of_mi ma R0 R1 (Fa.grew hS.inv) _).mono ?_); rintro e w1 ⟨k, c, T, rfl, hz, hF, hm, oo, nn, rfl⟩)))
          exact hS.row rfl rfl (by kernel_rfl) (Kept.grew (by (show Grew _ _; (try simp only [← Array.append_assoc]); repeat (first | (with_reducible exact Grew.same_o) | (with_reducible exact Grew.refl _) | (with_reducible assumption) | (with_reducible refine Grew.alloc ?_ _) | (with_reducible refine Grew.app_r ?_) | ((with_reducible refine Grew.setCell ?_ ?_ _); rotate_left; (focus (dsimp only; first | omega | (simp only [size_ext, World.size_alloc, Array.size_append]; omega)))) | (with_reducible refine Grew.ext ?_ _ _) | (with_reducible refine Grew.drewN ?_ _) | (with_reducible refine Grew.drew ?_))))) (hS.thru.grew _ _ hS.inv (by (show Grew _ _; (try simp only [← Array.append_assoc]); repeat (first | (with_reducible exact Grew.same_o) | (with_reducible exact Grew.refl _) | (with_reducible assumption) | (with_reducible refine Grew.alloc ?_ _) | (with_reducible refine Grew.app_r ?_) | ((with_reducible refine Grew.setCell ?_ ?_ _); rotate_left; (focus (dsimp only; first | omega | (simp only [size_ext, World.size_alloc, Array.size_append]; omega)))) | (with_reducible refine Grew.ext ?_ _ _) | (with_reducible refine Grew.drewN ?_ _) | (with_reducible refine Grew.drew ?_))))) (hz) (hF) (hm.1) (hm) (by first | (simp only [mkA_cons, mkA_nil, List.setIfInBounds_toArray, List.set_cons_zero, List.set_cons_succ, *]; done) | (simp only [mkA_cons, mkA_nil, List.setIfInBounds_toArray, List.set_cons_zero, List.set_cons_succ, *]; rfl))
        refine stepsM_cons (j := 3) rfl ?_ ?_
        · intro L ρ own u hS K hK
          obtain ⟨g1, c1, e1, z1, o1, L1, F1, l1, w1⟩ := hS.fact 1 rfl rfl (by kernel_rfl)
          change ρ 113 = _ at e1
          have ta := (Pa.grew hS.inv).cell
          have tb := (Pb.grew hS.inv).cell
          have la := (Pa.grew hS.inv).lt
          have lb := (Pb.grew hS.inv).lt
          simp only [mkA_cons, mkA_nil, List.setIfInBounds_toArray, List.set_cons_zero, List.set_cons_succ]
          go_wp2_with (first | (go_at_call 88; ((with_reducible refine (turn_ti w1 R0 R1 F1 _).mono ?_); rintro e w1 ⟨k, T, rfl, hz, hF, hm, oo, nn, rfl⟩)))
          exact hS.row rfl rfl (by kernel_rfl) (Kept.grew (by (show Grew _ _; (try simp only [← Array.append_assoc]); repeat (first | (with_reducible exact Grew.same_o) | (with_reducible exact Grew.refl _) | (with_reducible assumption) | (with_reducible refine Grew.alloc ?_ _) | (with_reducible refine Grew.app_r ?_) | ((with_reducible refine Grew.setCell ?_ ?_ _); rotate_left; (focus (dsimp only; first | omega | (simp only [size_ext, World.size_alloc, Array.size_append]; omega)))) | (with_reducible refine Grew.ext ?_ _ _) | (with_reducible refine Grew.drewN ?_ _) | (with_reducible refine Grew.drew ?_))))) (hS.thru.grew _ _ hS.inv (by (show Grew _ _; (try simp only [← Array.append_assoc]); repeat (first | (with_reducible exact Grew.same_o) | (with_reducible exact Grew.refl _) | (with_reducible assumption) | (with_reducible refine Grew.alloc ?_ _) | (with_reducible refine Grew.app_r ?_) | ((with_reducible refine Grew.setCell ?_ ?_ _); rotate_left; (focus (dsimp only; first | omega | (simp only [size_ext, World.size_alloc, Array.size_append]; omega)))) | (with_reducible refine Grew.ext ?_ _ _) | (with_reducible refine Grew.drewN ?_ _) | (with_reducible refine Grew.drew ?_))))) (hz) (hF) (hm.1) (⟨rfl, hm⟩) (by first | (simp only [mkA_cons, mkA_nil, List.setIfInBounds_toArray, List.set_cons_zero, List.set_cons_succ, *]; done) | (simp only [mkA_cons, mkA_nil, List.setIfInBounds_toArray, List.set_cons_zero, List.set_cons_succ, *]; rfl))
        refine stepsM_cons (j := 4) rfl ?_ ?_
        · intro L ρ own u hS K hK
          have ta := (Pa.grew hS.inv).cell
          have tb := (Pb.grew hS.inv).cell
          have la := (Pa.grew hS.inv).lt
          have lb := (Pb.grew hS.inv).lt
          simp only [mkA_cons, mkA_nil, List.setIfInBounds_toArray, List.set_cons_zero, List.set_cons_succ]
          go_wp2_with fail
          exact hS.val rfl rfl (by kernel_rfl) (by (show Grew _ _; (try simp only [← Array.append_assoc]); repeat (first | (with_reducible exact Grew.same_o) | (with_reducible exact Grew.refl _) | (with_reducible assumption) | (with_reducible refine Grew.alloc ?_ _) | (with_reducible refine Grew.app_r ?_) | ((with_reducible refine Grew.setCell ?_ ?_ _); rotate_left; (focus (dsimp only; first | omega | (simp only [size_ext, World.size_alloc, Array.size_append]; omega)))) | (with_reducible refine Grew.ext ?_ _ _) | (with_reducible refine Grew.drewN ?_ _) | (with_reducible refine Grew.drew ?_)))) (by first | rfl | assumption) (by first | (simp only [mkA_cons, mkA_nil, List.setIfInBounds_toArray, List.set_cons_zero, List.set_cons_succ, *]; done) | (simp only [mkA_cons, mkA_nil, List.setIfInBounds_toArray, List.set_cons_zero, List.set_cons_succ, *]; rfl))
        refine stepsM_cons (j := 5) rfl ?_ ?_
        · intro L ρ own u hS K hK
          obtain ⟨g2, c2, e2, z2, o2, L2, F2, l2, w2⟩ := hS.fact 2 rfl rfl (by kernel_rfl)
          change ρ 114 = _ at e2
          have e3 := hS.fact 3 rfl rfl (by kernel_rfl)
          change ρ 115 = _ at e3
          have ta := (Pa.grew hS.inv).cell
          have tb := (Pb.grew hS.inv).cell
          have la := (Pa.grew hS.inv).lt
          have lb := (Pb.grew hS.inv).lt
          simp only [mkA_cons, mkA_nil, List.setIfInBounds_toArray, List.set_cons_zero, List.set_cons_succ]
          go_wp2_with (first | (go_at_call 48; ((with_reducible refine (of_mi mb R1 R2 (Fb.grew hS.inv) _).mono ?_); rintro e w1 ⟨k, c, T, rfl, hz, hF, hm, oo, nn, rfl⟩)))
          exact hS.row rfl rfl (by kernel_rfl) (Kept.grew (by (show Grew _ _; (try simp only [← Array.append_assoc]); repeat (first | (with_reducible exact Grew.same_o) | (with_reducible exact Grew.refl _) | (with_reducible assumption) | (with_reducible refine Grew.alloc ?_ _) | (with_reducible refine Grew.app_r ?_) | ((with_reducible refine Grew.setCell ?_ ?_ _); rotate_left; (focus (dsimp only; first | omega | (simp only [size_ext, World.size_alloc, Array.size_append]; omega)))) | (with_reducible refine Grew.ext ?_ _ _) | (with_reducible refine Grew.drewN ?_ _) | (with_reducible refine Grew.drew ?_))))) (hS.thru.grew _ _ hS.inv (by (show Grew _ _; (try simp only [← Array.append_assoc]); repeat (first | (with_reducible exact Grew.same_o) | (with_reducible exact Grew.refl _) | (with_reducible assumption) | (with_reducible refine Grew.alloc ?_ _) | (with_reducible refine Grew.app_r ?_) | ((with_reducible refine Grew.setCell ?_ ?_ _); rotate_left; (focus (dsimp only; first | omega | (simp only [size_ext, World.size_alloc, Array.size_append]; omega)))) | (with_reducible refine Grew.ext ?_ _ _) | (with_reducible refine Grew.drewN ?_ _) | (with_reducible refine Grew.drew ?_))))) (hz) (hF) (hm.1) (hm) (by first | (simp only [mkA_cons, mkA_nil, List.setIfInBounds_toArray, List.set_cons_zero, List.set_cons_succ, *]; done) | (simp only [mkA_cons, mkA_nil, List.setIfInBounds_toArray, List.set_cons_zero, List.set_cons_succ, *]; rfl))
        refine stepsM_cons (j := 6) rfl ?_ ?_
        · intro L ρ own u hS K hK
          obtain ⟨g4, c4, e4, z4, o4, L4, F4, l4, w4⟩ := hS.fact 4 rfl rfl (by kernel_rfl)
          change ρ 116 = _ at e4
          have ta := (Pa.grew hS.inv).cell
          have tb := (Pb.grew hS.inv).cell
          have la := (Pa.grew hS.inv).lt
          have lb := (Pb.grew hS.inv).lt
          simp only [mkA_cons, mkA_nil, List.setIfInBounds_toArray, List.set_cons_zero, List.set_cons_succ]
          go_wp2_with (first | (go_at_call 88; ((with_reducible refine (turn_ti w4 R1 R2 F4 _).mono ?_); rintro e w1 ⟨k, T, rfl, hz, hF, hm, oo, nn, rfl⟩)))
          exact hS.row rfl rfl (by kernel_rfl) (Kept.grew (by (show Grew _ _; (try simp only [← Array.append_assoc]); repeat (first | (with_reducible exact Grew.same_o) | (with_reducible exact Grew.refl _) | (with_reducible assumption) | (with_reducible refine Grew.alloc ?_ _) | (with_reducible refine Grew.app_r ?_) | ((with_reducible refine Grew.setCell ?_ ?_ _); rotate_left; (focus (dsimp only; first | omega | (simp only [size_ext, World.size_alloc, Array.size_append]; omega)))) | (with_reducible refine Grew.ext ?_ _ _) | (with_reducible refine Grew.drewN ?_ _) | (with_reducible refine Grew.drew ?_))))) (hS.thru.grew _ _ hS.inv (by (show Grew _ _; (try simp only [← Array.append_assoc]); repeat (first | (with_reducible exact Grew.same_o) | (with_reducible exact Grew.refl _) | (with_reducible assumption) | (with_reducible refine Grew.alloc ?_ _) | (with_reducible refine Grew.app_r ?_) | ((with_reducible refine Grew.setCell ?_ ?_ _); rotate_left; (focus (dsimp only; first | omega | (simp only [size_ext, World.size_alloc, Array.size_append]; omega)))) | (with_reducible refine Grew.ext ?_ _ _) | (with_reducible refine Grew.drewN ?_ _) | (with_reducible refine Grew.drew ?_))))) (hz) (hF) (hm.1) (⟨rfl, hm⟩) (by first | (simp only [mkA_cons, mkA_nil, List.setIfInBounds_toArray, List.set_cons_zero, List.set_cons_succ, *]; done) | (simp only [mkA_cons, mkA_nil, List.setIfInBounds_toArray, List.set_cons_zero, List.set_cons_succ, *]; rfl))
        refine stepsM_cons (j := 7) rfl ?_ ?_
        · intro L ρ own u hS K hK
          simp only [mkA_cons, mkA_nil, List.setIfInBounds_toArray, List.set_cons_zero, List.set_cons_succ]
          go_wp2_with fail
          exact hS.box rfl rfl (by kernel_rfl) rfl (by first | (simp only [mkA_cons, mkA_nil, List.setIfInBounds_toArray, List.set_cons_zero, List.set_cons_succ, *]; done) | (simp only [mkA_cons, mkA_nil, List.setIfInBounds_toArray, List.set_cons_zero, List.set_cons_succ, *]; rfl))
        refine stepsM_cons (j := 8) rfl ?_ ?_
        · intro L ρ own u hS K hK
          simp only [mkA_cons, mkA_nil, List.setIfInBounds_toArray, List.set_cons_zero, List.set_cons_succ]
          go_wp2_with fail
          exact hS.box rfl rfl (by kernel_rfl) rfl (by first | (simp only [mkA_cons, mkA_nil, List.setIfInBounds_toArray, List.set_cons_zero, List.set_cons_succ, *]; done) | (simp only [mkA_cons, mkA_nil, List.setIfInBounds_toArray, List.set_cons_zero, List.set_cons_succ, *]; rfl))
        refine stepsM_cons (j := 9) rfl ?_ ?_
        · intro L ρ own u hS K hK
          exact hS.put (kb := 6) (kr := 2) rfl rfl (by kernel_rfl) (by decide) (fun _ => rfl) rfl rfl (by kernel_rfl) rfl rfl rfl (by kernel_rfl) rfl (fun _ => rfl) rfl (by simp only [mkA_cons, mkA_nil, List.setIfInBounds_toArray, List.set_cons_zero, List.set_cons_succ]; rfl) (by simp only [mkA_cons, mkA_nil, List.setIfInBounds_toArray, List.set_cons_zero, List.set_cons_succ]; rfl) (by kernel_rfl) (fun _ _ _ => by kernel_rfl) hK
        refine stepsM_cons (j := 10) rfl ?_ ?_
        · intro L ρ own u hS K hK
          exact hS.put (kb := 7) (kr := 5) rfl rfl (by kernel_rfl) (by decide) (fun _ => rfl) rfl rfl (by kernel_rfl) rfl rfl rfl (by kernel_rfl) rfl (fun _ => rfl) rfl (by simp only [mkA_cons, mkA_nil, List.setIfInBounds_toArray, List.set_cons_zero, List.set_cons_succ]; rfl) (by simp only [mkA_cons, mkA_nil, List.setIfInBounds_toArray, List.set_cons_zero, List.set_cons_succ]; rfl) (by kernel_rfl) (fun _ _ _ => by kernel_rfl) hK
        exact stepsM_nil
      obtain ⟨p8, g8, c8, E8, e8, ow8, zl8, bx8, gz8, gB8, L8, F8, l8, w8⟩ := hF 8 _ _ rfl rfl
      have Bx8 := boxOf bx8
      change ρ 20 = _ at e8
      obtain ⟨p9, g9, c9, E9, e9, ow9, zl9, bx9, gz9, gB9, L9, F9, l9, w9⟩ := hF 9 _ _ rfl rfl
      have Bx9 := boxOf bx9
      change ρ 21 = _ at e9
      have y0 := hF 0 _ _ rfl rfl
      change ρ 112 = _ at y0
      have y3 := hF 3 _ _ rfl rfl
      change ρ 115 = _ at y3
      simp only [mkA_cons, mkA_nil, List.setIfInBounds_toArray, List.set_cons_zero, List.set_cons_succ, e8, e9, y0, y3]
      obtain ⟨e8', ta⟩ := w8
      obtain ⟨e9', tb⟩ := w9
      subst e8' e9'
      have Ta : Box U5 p8 #[.int .i64 r1, .int .i64 r0, .slice (some ⟨g8, 0, none⟩) (r1 * r0) (r1 * r0)] := Bx8
      have Tb : Box U5 p9 #[.int .i64 r2, .int .i64 r1, .slice (some ⟨g9, 0, none⟩) (r2 * r1) (r2 * r1)] := Bx9
      have Fta : FW U5 g8 L8 := F8
      have Ftb : FW U5 g9 L9 := F9
      clear hF Bx8 Bx9 bx8 bx9 F8 F9 e8 e9 y0 y3 t1 t2 t3 k1 k2 k3
      replace Pa := Pa.grew hI
      replace Pb := Pb.grew hI
      replace Pc := Pc.grew hI
      replace Pab := Pab.grew hI
      replace Pbc := Pbc.grew hI
      replace Px := Px.grew hI
      replace Py := Py.grew hI
      replace Fa := Fa.grew hI
      replace Fb := Fb.grew hI
      replace Fc := Fc.grew hI
      replace Fab := Fab.grew hI
      replace Fbc := Fbc.grew hI
      replace Fx := Fx.grew hI
      replace Fy := Fy.grew hI
      have gwU5 := Grew.trans gwU4 hI
      clear gwU4 hI
      have t1 := Ta.cell
      have t2 := Tb.cell
      have k1 := Ta.lt
      have k2 := Tb.lt
      go_upto_region 20 with fail
      have U5r : Grew U5 U5 := Grew.refl _
      refine wp_region_JM [22] (U5) (Grew U5) [.val (fun v => v = .pointer (some ⟨p9, 0, none⟩)), .val (fun v => v = .int .i64 r2), .val (fun v => v = .pointer (some ⟨p9, 1, none⟩)), .val (fun v => v = .int .i64 r1), .val (fun v => v = .pointer (some ⟨p9, 2, none⟩)), .val (fun v => v = .slice (some ⟨g9, 0, none⟩) (r2 * r1) (r2 * r1)), .row (fun s => .agg #[s, .int .i64 0, .int .i64 r2, .int .i64 r1, .int .i64 r2]) (r2 * r1) (fun _ L => MI L r2 r1 (fun i j => fb j i) 50), .val (fun v => v = .pointer (some ⟨p8, 0, none⟩)), .val (fun v => v = .int .i64 r1), .val (fun v => v = .pointer (some ⟨p8, 1, none⟩)), .val (fun v => v = .int .i64 r0), .val (fun v => v = .pointer (some ⟨p8, 2, none⟩)), .val (fun v => v = .slice (some ⟨g8, 0, none⟩) (r1 * r0) (r1 * r0)), .row (fun s => .agg #[s, .int .i64 0, .int .i64 r1, .int .i64 r0, .int .i64 r1]) (r1 * r0) (fun _ L => MI L r1 r0 (fun i j => fa j i) 50), .pair (fun s t => #[s, .int .i64 0, .int .i64 r2, .int .i64 r1, .int .i64 r2, t, .int .i64 0, .int .i64 r1, .int .i64 r0, .int .i64 r1]) (r2 * r1) (r1 * r0) (fun _ L => MI L r2 r1 (fun i j => fb j i) 50) (fun _ L => MI L r1 r0 (fun i j => fa j i) 50), .row (fun s => .tuple #[.agg #[s, .int .i64 0, .int .i64 r2, .int .i64 r0, .int .i64 r2], .int .i64 0]) (r2 * r0) (fun _ L => MI L r2 r0 (mmul (fun i j => fb j i) (fun i j => fa j i) r1) (6 * (50 * 50))), .row (fun s => .tuple #[.agg #[s, .int .i64 0, .int .i64 r2, .int .i64 r0, .int .i64 r2], .int .i64 0]) (r2 * r0) (fun _ L => MI L r2 r0 (mmul (fun i j => fb j i) (fun i j => fa j i) r1) (6 * (50 * 50))), .row (fun s => .agg #[s, .int .i64 0, .int .i64 r2, .int .i64 r0, .int .i64 r2]) (r2 * r0) (fun _ L => MI L r2 r0 (mmul (fun i j => fb j i) (fun i j => fa j i) r1) (6 * (50 * 50))), .val (fun v => v = .int .i64 0), .box 5, .put 22 (fun s => #[s, .int .i64 0, .int .i64 r2, .int .i64 r0, .int .i64 r2]) (r2 * r0) (fun _ L => MI L r2 r0 (mmul (fun i j => fb j i) (fun i j => fa j i) r1) (6 * (50 * 50))), .val (fun v => v = .int .i64 0)] [119, 120, 121, 122, 123, 124, 125, 126, 127, 128, 129, 130, 131, 132, 133, 134, 118, 135, 136, 22, 23] (Thru.grewW U5) (by kernel_rfl) (by kernel_rfl) (Grew.refl _) (by (show Grew _ _; (try simp only [← Array.append_assoc]); repeat (first | (with_reducible exact Grew.same_o) | (with_reducible exact Grew.refl _) | (with_reducible assumption) | (with_reducible refine Grew.alloc ?_ _) | (with_reducible refine Grew.app_r ?_) | ((with_reducible refine Grew.setCell ?_ ?_ _); rotate_left; (focus (dsimp only; first | omega | (simp only [size_ext, World.size_alloc, Array.size_append]; omega)))) | (with_reducible refine Grew.ext ?_ _ _) | (with_reducible refine Grew.drewN ?_ _) | (with_reducible refine Grew.drew ?_)))) ?_ (fun ρ own U6 hI gz hF => ?_)
      · refine stepsM_cons (j := 1) rfl ?_ ?_
        · intro L ρ own u hS K hK
          have xa := (Ta.grew hS.inv).cell
          have xb := (Tb.grew hS.inv).cell
          have la := (Ta.grew hS.inv).lt
          have lb := (Tb.grew hS.inv).lt
          simp only [mkA_cons, mkA_nil, List.setIfInBounds_toArray, List.set_cons_zero, List.set_cons_succ]
          go_wp2_with fail
          exact hS.val rfl rfl (by kernel_rfl) (by (show Grew _ _; (try simp only [← Array.append_assoc]); repeat (first | (with_reducible exact Grew.same_o) | (with_reducible exact Grew.refl _) | (with_reducible assumption) | (with_reducible refine Grew.alloc ?_ _) | (with_reducible refine Grew.app_r ?_) | ((with_reducible refine Grew.setCell ?_ ?_ _); rotate_left; (focus (dsimp only; first | omega | (simp only [size_ext, World.size_alloc, Array.size_append]; omega)))) | (with_reducible refine Grew.ext ?_ _ _) | (with_reducible refine Grew.drewN ?_ _) | (with_reducible refine Grew.drew ?_)))) (by first | rfl | assumption) (by first | (simp only [mkA_cons, mkA_nil, List.setIfInBounds_toArray, List.set_cons_zero, List.set_cons_succ, *]; done) | (simp only [mkA_cons, mkA_nil, List.setIfInBounds_toArray, List.set_cons_zero, List.set_cons_succ, *]; rfl))
        refine stepsM_cons (j := 2) rfl ?_ ?_
        · intro L ρ own u hS K hK
          have e0 := hS.fact 0 rfl rfl (by kernel_rfl)
          change ρ 119 = _ at e0
          have xa := (Ta.grew hS.inv).cell
          have xb := (Tb.grew hS.inv).cell
          have la := (Ta.grew hS.inv).lt
          have lb := (Tb.grew hS.inv).lt
          simp only [mkA_cons, mkA_nil, List.setIfInBounds_toArray, List.set_cons_zero, List.set_cons_succ]
          go_wp2_with fail
          exact hS.val rfl rfl (by kernel_rfl) (by (show Grew _ _; (try simp only [← Array.append_assoc]); repeat (first | (with_reducible exact Grew.same_o) | (with_reducible exact Grew.refl _) | (with_reducible assumption) | (with_reducible refine Grew.alloc ?_ _) | (with_reducible refine Grew.app_r ?_) | ((with_reducible refine Grew.setCell ?_ ?_ _); rotate_left; (focus (dsimp only; first | omega | (simp only [size_ext, World.size_alloc, Array.size_append]; omega)))) | (with_reducible refine Grew.ext ?_ _ _) | (with_reducible refine Grew.drewN ?_ _) | (with_reducible refine Grew.drew ?_)))) (by first | rfl | assumption) (by first | (simp only [mkA_cons, mkA_nil, List.setIfInBounds_toArray, List.set_cons_zero, List.set_cons_succ, *]; done) | (simp only [mkA_cons, mkA_nil, List.setIfInBounds_toArray, List.set_cons_zero, List.set_cons_succ, *]; rfl))
        refine stepsM_cons (j := 3) rfl ?_ ?_
        · intro L ρ own u hS K hK
          have xa := (Ta.grew hS.inv).cell
          have xb := (Tb.grew hS.inv).cell
          have la := (Ta.grew hS.inv).lt
          have lb := (Tb.grew hS.inv).lt
          simp only [mkA_cons, mkA_nil, List.setIfInBounds_toArray, List.set_cons_zero, List.set_cons_succ]
          go_wp2_with fail
          exact hS.val rfl rfl (by kernel_rfl) (by (show Grew _ _; (try simp only [← Array.append_assoc]); repeat (first | (with_reducible exact Grew.same_o) | (with_reducible exact Grew.refl _) | (with_reducible assumption) | (with_reducible refine Grew.alloc ?_ _) | (with_reducible refine Grew.app_r ?_) | ((with_reducible refine Grew.setCell ?_ ?_ _); rotate_left; (focus (dsimp only; first | omega | (simp only [size_ext, World.size_alloc, Array.size_append]; omega)))) | (with_reducible refine Grew.ext ?_ _ _) | (with_reducible refine Grew.drewN ?_ _) | (with_reducible refine Grew.drew ?_)))) (by first | rfl | assumption) (by first | (simp only [mkA_cons, mkA_nil, List.setIfInBounds_toArray, List.set_cons_zero, List.set_cons_succ, *]; done) | (simp only [mkA_cons, mkA_nil, List.setIfInBounds_toArray, List.set_cons_zero, List.set_cons_succ, *]; rfl))
        refine stepsM_cons (j := 4) rfl ?_ ?_
        · intro L ρ own u hS K hK
          have e2 := hS.fact 2 rfl rfl (by kernel_rfl)
          change ρ 121 = _ at e2
          have xa := (Ta.grew hS.inv).cell
          have xb := (Tb.grew hS.inv).cell
          have la := (Ta.grew hS.inv).lt
          have lb := (Tb.grew hS.inv).lt
          simp only [mkA_cons, mkA_nil, List.setIfInBounds_toArray, List.set_cons_zero, List.set_cons_succ]
          go_wp2_with fail
          exact hS.val rfl rfl (by kernel_rfl) (by (show Grew _ _; (try simp only [← Array.append_assoc]); repeat (first | (with_reducible exact Grew.same_o) | (with_reducible exact Grew.refl _) | (with_reducible assumption) | (with_reducible refine Grew.alloc ?_ _) | (with_reducible refine Grew.app_r ?_) | ((with_reducible refine Grew.setCell ?_ ?_ _); rotate_left; (focus (dsimp only; first | omega | (simp only [size_ext, World.size_alloc, Array.size_append]; omega)))) | (with_reducible refine Grew.ext ?_ _ _) | (with_reducible refine Grew.drewN ?_ _) | (with_reducible refine Grew.drew ?_)))) (by first | rfl | assumption) (by first | (simp only [mkA_cons, mkA_nil, List.setIfInBounds_toArray, List.set_cons_zero, List.set_cons_succ, *]; done) | (simp only [mkA_cons, mkA_nil, List.setIfInBounds_toArray, List.set_cons_zero, List.set_cons_succ, *]; rfl))
        refine stepsM_cons (j := 5) rfl ?_ ?_
        · intro L ρ own u hS K hK
          have xa := (Ta.grew hS.inv).cell
          have xb := (Tb.grew hS.inv).cell
          have la := (Ta.grew hS.inv).lt
          have lb := (Tb.grew hS.inv).lt
          simp only [mkA_cons, mkA_nil, List.setIfInBounds_toArray, List.set_cons_zero, List.set_cons_succ]
          go_wp2_with fail
          exact hS.val rfl rfl (by kernel_rfl) (by (show Grew _ _; (try simp only [← Array.append_assoc]); repeat (first | (with_reducible exact Grew.same_o) | (with_reducible exact Grew.refl _) | (with_reducible assumption) | (with_reducible refine Grew.alloc ?_ _) | (with_reducible refine Grew.app_r ?_) | ((with_reducible refine Grew.setCell ?_ ?_ _); rotate_left; (focus (dsimp only; first | omega | (simp only [size_ext, World.size_alloc, Array.size_append]; omega)))) | (with_reducible refine Grew.ext ?_ _ _) | (with_reducible refine Grew.drewN ?_ _) | (with_reducible refine Grew.drew ?_)))) (by first | rfl | assumption) (by first | (simp only [mkA_cons, mkA_nil, List.setIfInBounds_toArray, List.set_cons_zero, List.set_cons_succ, *]; done) | (simp only [mkA_cons, mkA_nil, List.setIfInBounds_toArray, List.set_cons_zero, List.set_cons_succ, *]; rfl))
        refine stepsM_cons (j := 6) rfl ?_ ?_
        · intro L ρ own u hS K hK
          have e4 := hS.fact 4 rfl rfl (by kernel_rfl)
          change ρ 123 = _ at e4
          have xa := (Ta.grew hS.inv).cell
          have xb := (Tb.grew hS.inv).cell
          have la := (Ta.grew hS.inv).lt
          have lb := (Tb.grew hS.inv).lt
          simp only [mkA_cons, mkA_nil, List.setIfInBounds_toArray, List.set_cons_zero, List.set_cons_succ]
          go_wp2_with fail
          exact hS.val rfl rfl (by kernel_rfl) (by (show Grew _ _; (try simp only [← Array.append_assoc]); repeat (first | (with_reducible exact Grew.same_o) | (with_reducible exact Grew.refl _) | (with_reducible assumption) | (with_reducible refine Grew.alloc ?_ _) | (with_reducible refine Grew.app_r ?_) | ((with_reducible refine Grew.setCell ?_ ?_ _); rotate_left; (focus (dsimp only; first | omega | (simp only [size_ext, World.size_alloc, Array.size_append]; omega)))) | (with_reducible refine Grew.ext ?_ _ _) | (with_reducible refine Grew.drewN ?_ _) | (with_reducible refine Grew.drew ?_)))) (by first | rfl | assumption) (by first | (simp only [mkA_cons, mkA_nil, List.setIfInBounds_toArray, List.set_cons_zero, List.set_cons_succ, *]; done) | (simp only [mkA_cons, mkA_nil, List.setIfInBounds_toArray, List.set_cons_zero, List.set_cons_succ, *]; rfl))
        refine stepsM_cons (j := 7) rfl ?_ ?_
        · intro L ρ own u hS K hK
          have e1 := hS.fact 1 rfl rfl (by kernel_rfl)
          change ρ 120 = _ at e1
          have e3 := hS.fact 3 rfl rfl (by kernel_rfl)
          change ρ 122 = _ at e3
          have e5 := hS.fact 5 rfl rfl (by kernel_rfl)
          change ρ 124 = _ at e5
          have xa := (Ta.grew hS.inv).cell
          have xb := (Tb.grew hS.inv).cell
          have la := (Ta.grew hS.inv).lt
          have lb := (Tb.grew hS.inv).lt
          simp only [mkA_cons, mkA_nil, List.setIfInBounds_toArray, List.set_cons_zero, List.set_cons_succ]
          go_wp2_with (first | (go_at_call 69; ((with_reducible refine (dense_ti tb R2 R1 (Ftb.grew hS.inv)).mono ?_); rintro e w1 ⟨k, c, L, rfl, hz, hF, hm, oo, nn, rfl⟩)))
          exact hS.row rfl rfl (by kernel_rfl) (Kept.grew (by (show Grew _ _; (try simp only [← Array.append_assoc]); repeat (first | (with_reducible exact Grew.same_o) | (with_reducible exact Grew.refl _) | (with_reducible assumption) | (with_reducible refine Grew.alloc ?_ _) | (with_reducible refine Grew.app_r ?_) | ((with_reducible refine Grew.setCell ?_ ?_ _); rotate_left; (focus (dsimp only; first | omega | (simp only [size_ext, World.size_alloc, Array.size_append]; omega)))) | (with_reducible refine Grew.ext ?_ _ _) | (with_reducible refine Grew.drewN ?_ _) | (with_reducible refine Grew.drew ?_))))) (hS.thru.grew _ _ hS.inv (by (show Grew _ _; (try simp only [← Array.append_assoc]); repeat (first | (with_reducible exact Grew.same_o) | (with_reducible exact Grew.refl _) | (with_reducible assumption) | (with_reducible refine Grew.alloc ?_ _) | (with_reducible refine Grew.app_r ?_) | ((with_reducible refine Grew.setCell ?_ ?_ _); rotate_left; (focus (dsimp only; first | omega | (simp only [size_ext, World.size_alloc, Array.size_append]; omega)))) | (with_reducible refine Grew.ext ?_ _ _) | (with_reducible refine Grew.drewN ?_ _) | (with_reducible refine Grew.drew ?_))))) (hz) (hF) (hm.1) (hm) (by first | (simp only [mkA_cons, mkA_nil, List.setIfInBounds_toArray, List.set_cons_zero, List.set_cons_succ, *]; done) | (simp only [mkA_cons, mkA_nil, List.setIfInBounds_toArray, List.set_cons_zero, List.set_cons_succ, *]; rfl))
        refine stepsM_cons (j := 8) rfl ?_ ?_
        · intro L ρ own u hS K hK
          have xa := (Ta.grew hS.inv).cell
          have xb := (Tb.grew hS.inv).cell
          have la := (Ta.grew hS.inv).lt
          have lb := (Tb.grew hS.inv).lt
          simp only [mkA_cons, mkA_nil, List.setIfInBounds_toArray, List.set_cons_zero, List.set_cons_succ]
          go_wp2_with fail
          exact hS.val rfl rfl (by kernel_rfl) (by (show Grew _ _; (try simp only [← Array.append_assoc]); repeat (first | (with_reducible exact Grew.same_o) | (with_reducible exact Grew.refl _) | (with_reducible assumption) | (with_reducible refine Grew.alloc ?_ _) | (with_reducible refine Grew.app_r ?_) | ((with_reducible refine Grew.setCell ?_ ?_ _); rotate_left; (focus (dsimp only; first | omega | (simp only [size_ext, World.size_alloc, Array.size_append]; omega)))) | (with_reducible refine Grew.ext ?_ _ _) | (with_reducible refine Grew.drewN ?_ _) | (with_reducible refine Grew.drew ?_)))) (by first | rfl | assumption) (by first | (simp only [mkA_cons, mkA_nil, List.setIfInBounds_toArray, List.set_cons_zero, List.set_cons_succ, *]; done) | (simp only [mkA_cons, mkA_nil, List.setIfInBounds_toArray, List.set_cons_zero, List.set_cons_succ, *]; rfl))
        refine stepsM_cons (j := 9) rfl ?_ ?_
        · intro L ρ own u hS K hK
          have e7 := hS.fact 7 rfl rfl (by kernel_rfl)
          change ρ 126 = _ at e7
          have xa := (Ta.grew hS.inv).cell
          have xb := (Tb.grew hS.inv).cell
          have la := (Ta.grew hS.inv).lt
          have lb := (Tb.grew hS.inv).lt
          simp only [mkA_cons, mkA_nil, List.setIfInBounds_toArray, List.set_cons_zero, List.set_cons_succ]
          go_wp2_with fail
          exact hS.val rfl rfl (by kernel_rfl) (by (show Grew _ _; (try simp only [← Array.append_assoc]); repeat (first | (with_reducible exact Grew.same_o) | (with_reducible exact Grew.refl _) | (with_reducible assumption) | (with_reducible refine Grew.alloc ?_ _) | (with_reducible refine Grew.app_r ?_) | ((with_reducible refine Grew.setCell ?_ ?_ _); rotate_left; (focus (dsimp only; first | omega | (simp only [size_ext, World.size_alloc, Array.size_append]; omega)))) | (with_reducible refine Grew.ext ?_ _ _) | (with_reducible refine Grew.drewN ?_ _) | (with_reducible refine Grew.drew ?_)))) (by first | rfl | assumption) (by first | (simp only [mkA_cons, mkA_nil, List.setIfInBounds_toArray, List.set_cons_zero, List.set_cons_succ, *]; done) | (simp only [mkA_cons, mkA_nil, List.setIfInBounds_toArray, List.set_cons_zero, List.set_cons_succ, *]; rfl))
        refine stepsM_cons (j := 10) rfl ?_ ?_
        · intro L ρ own u hS K hK
          have xa := (Ta.grew hS.inv).cell
          have xb := (Tb.grew hS.inv).cell
          have la := (Ta.grew hS.inv).lt
          have lb := (Tb.grew hS.inv).lt
          simp only [mkA_cons, mkA_nil, List.setIfInBounds_toArray, List.set_cons_zero, List.set_cons_succ]
          go_wp2_with fail
          exact hS.val rfl rfl (by kernel_rfl) (by (show Grew _ _; (try simp only [← Array.append_assoc]); repeat (first | (with_reducible exact Grew.same_o) | (with_reducible exact Grew.refl _) | (with_reducible assumption) | (with_reducible refine Grew.alloc ?_ _) | (with_reducible refine Grew.app_r ?_) | ((with_reducible refine Grew.setCell ?_ ?_ _); rotate_left; (focus (dsimp only; first | omega | (simp only [size_ext, World.size_alloc, Array.size_append]; omega)))) | (with_reducible refine Grew.ext ?_ _ _) | (with_reducible refine Grew.drewN ?_ _) | (with_reducible refine Grew.drew ?_)))) (by first | rfl | assumption) (by first | (simp only [mkA_cons, mkA_nil, List.setIfInBounds_toArray, List.set_cons_zero, List.set_cons_succ, *]; done) | (simp only [mkA_cons, mkA_nil, List.setIfInBounds_toArray, List.set_cons_zero, List.set_cons_succ, *]; rfl))
        refine stepsM_cons (j := 11) rfl ?_ ?_
        · intro L ρ own u hS K hK
          have e9 := hS.fact 9 rfl rfl (by kernel_rfl)
          change ρ 128 = _ at e9
          have xa := (Ta.grew hS.inv).cell
          have xb := (Tb.grew hS.inv).cell
          have la := (Ta.grew hS.inv).lt
          have lb := (Tb.grew hS.inv).lt
          simp only [mkA_cons, mkA_nil, List.setIfInBounds_toArray, List.set_cons_zero, List.set_cons_succ]
          go_wp2_with fail
          exact hS.val rfl rfl (by kernel_rfl) (by (show Grew _ _; (try simp only [← Array.append_assoc]); repeat (first | (with_reducible exact Grew.same_o) | (with_reducible exact Grew.refl _) | (with_reducible assumption) | (with_reducible refine Grew.alloc ?_ _) | (with_reducible refine Grew.app_r ?_) | ((with_reducible refine Grew.setCell ?_ ?_ _); rotate_left; (focus (dsimp only; first | omega | (simp only [size_ext, World.size_alloc, Array.size_append]; omega)))) | (with_reducible refine Grew.ext ?_ _ _) | (with_reducible refine Grew.drewN ?_ _) | (with_reducible refine Grew.drew ?_)))) (by first | rfl | assumption) (by first | (simp only [mkA_cons, mkA_nil, List.setIfInBounds_toArray, List.set_cons_zero, List.set_cons_succ, *]; done) | (simp only [mkA_cons, mkA_nil, List.setIfInBounds_toArray, List.set_cons_zero, List.set_cons_succ, *]; rfl))
        refine stepsM_cons (j := 12) rfl ?_ ?_
        · intro L ρ own u hS K hK
          have xa := (Ta.grew hS.inv).cell
          have xb := (Tb.grew hS.inv).cell
          have la := (Ta.grew hS.inv).lt
          have lb := (Tb.grew hS.inv).lt
          simp only [mkA_cons, mkA_nil, List.setIfInBounds_toArray, List.set_cons_zero, List.set_cons_succ]
          go_wp2_with fail
          exact hS.val rfl rfl (by kernel_rfl) (by (show Grew _ _; (try simp only [← Array.append_assoc]); repeat (first | (with_reducible exact Grew.same_o) | (with_reducible exact Grew.refl _) | (with_reducible assumption) | (with_reducible refine Grew.alloc ?_ _) | (with_reducible refine Grew.app_r ?_) | ((with_reducible refine Grew.setCell ?_ ?_ _); rotate_left; (focus (dsimp only; first | omega | (simp only [size_ext, World.size_alloc, Array.size_append]; omega)))) | (with_reducible refine Grew.ext ?_ _ _) | (with_reducible refine Grew.drewN ?_ _) | (with_reducible refine Grew.drew ?_)))) (by first | rfl | assumption) (by first | (simp only [mkA_cons, mkA_nil, List.setIfInBounds_toArray, List.set_cons_zero, List.set_cons_succ, *]; done) | (simp only [mkA_cons, mkA_nil, List.setIfInBounds_toArray, List.set_cons_zero, List.set_cons_succ, *]; rfl))
        refine stepsM_cons (j := 13) rfl ?_ ?_
        · intro L ρ own u hS K hK
          have e11 := hS.fact 11 rfl rfl (by kernel_rfl)
          change ρ 130 = _ at e11
          have xa := (Ta.grew hS.inv).cell
          have xb := (Tb.grew hS.inv).cell
          have la := (Ta.grew hS.inv).lt
          have lb := (Tb.grew hS.inv).lt
          simp only [mkA_cons, mkA_nil, List.setIfInBounds_toArray, List.set_cons_zero, List.set_cons_succ]
          go_wp2_with fail
          exact hS.val rfl rfl (by kernel_rfl) (by (show Grew _ _; (try simp only [← Array.append_assoc]); repeat (first | (with_reducible exact Grew.same_o) | (with_reducible exact Grew.refl _) | (with_reducible assumption) | (with_reducible refine Grew.alloc ?_ _) | (with_reducible refine Grew.app_r ?_) | ((with_reducible refine Grew.setCell ?_ ?_ _); rotate_left; (focus (dsimp only; first | omega | (simp only [size_ext, World.size_alloc, Array.size_append]; omega)))) | (with_reducible refine Grew.ext ?_ _ _) | (with_reducible refine Grew.drewN ?_ _) | (with_reducible refine Grew.drew ?_)))) (by first | rfl | assumption) (by first | (simp only [mkA_cons, mkA_nil, List.setIfInBounds_toArray, List.set_cons_zero, List.set_cons_succ, *]; done) | (simp only [mkA_cons, mkA_nil, List.setIfInBounds_toArray, List.set_cons_zero, List.set_cons_succ, *]; rfl))
        refine stepsM_cons (j := 14) rfl ?_ ?_
        · intro L ρ own u hS K hK
          obtain ⟨g6, c6, e6, z6, o6, L6, F6, l6, w6⟩ := hS.fact 6 rfl rfl (by kernel_rfl)
          change ρ 125 = _ at e6
          have e8 := hS.fact 8 rfl rfl (by kernel_rfl)
          change ρ 127 = _ at e8
          have e10 := hS.fact 10 rfl rfl (by kernel_rfl)
          change ρ 129 = _ at e10
          have e12 := hS.fact 12 rfl rfl (by kernel_rfl)
          change ρ 131 = _ at e12
          have xa := (Ta.grew hS.inv).cell
          have xb := (Tb.grew hS.inv).cell
          have la := (Ta.grew hS.inv).lt
          have lb := (Tb.grew hS.inv).lt
          simp only [mkA_cons, mkA_nil, List.setIfInBounds_toArray, List.set_cons_zero, List.set_cons_succ]
          go_wp2_with (first | (go_at_call 69; ((with_reducible refine (dense_ti ta R1 R0 (Fta.grew hS.inv)).mono ?_); rintro e w1 ⟨k, c, L, rfl, hz, hF, hm, oo, nn, rfl⟩)))
          exact hS.row rfl rfl (by kernel_rfl) (Kept.grew (by (show Grew _ _; (try simp only [← Array.append_assoc]); repeat (first | (with_reducible exact Grew.same_o) | (with_reducible exact Grew.refl _) | (with_reducible assumption) | (with_reducible refine Grew.alloc ?_ _) | (with_reducible refine Grew.app_r ?_) | ((with_reducible refine Grew.setCell ?_ ?_ _); rotate_left; (focus (dsimp only; first | omega | (simp only [size_ext, World.size_alloc, Array.size_append]; omega)))) | (with_reducible refine Grew.ext ?_ _ _) | (with_reducible refine Grew.drewN ?_ _) | (with_reducible refine Grew.drew ?_))))) (hS.thru.grew _ _ hS.inv (by (show Grew _ _; (try simp only [← Array.append_assoc]); repeat (first | (with_reducible exact Grew.same_o) | (with_reducible exact Grew.refl _) | (with_reducible assumption) | (with_reducible refine Grew.alloc ?_ _) | (with_reducible refine Grew.app_r ?_) | ((with_reducible refine Grew.setCell ?_ ?_ _); rotate_left; (focus (dsimp only; first | omega | (simp only [size_ext, World.size_alloc, Array.size_append]; omega)))) | (with_reducible refine Grew.ext ?_ _ _) | (with_reducible refine Grew.drewN ?_ _) | (with_reducible refine Grew.drew ?_))))) (hz) (hF) (hm.1) (hm) (by first | (simp only [mkA_cons, mkA_nil, List.setIfInBounds_toArray, List.set_cons_zero, List.set_cons_succ, *]; done) | (simp only [mkA_cons, mkA_nil, List.setIfInBounds_toArray, List.set_cons_zero, List.set_cons_succ, *]; rfl))
        refine stepsM_cons (j := 15) rfl ?_ ?_
        · intro L ρ own u hS K hK
          obtain ⟨g6, c6, e6, z6, o6, L6, F6, l6, w6⟩ := hS.fact 6 rfl rfl (by kernel_rfl)
          change ρ 125 = _ at e6
          obtain ⟨g13, c13, e13, z13, o13, L13, F13, l13, w13⟩ := hS.fact 13 rfl rfl (by kernel_rfl)
          change ρ 132 = _ at e13
          have xa := (Ta.grew hS.inv).cell
          have xb := (Tb.grew hS.inv).cell
          have la := (Ta.grew hS.inv).lt
          have lb := (Tb.grew hS.inv).lt
          simp only [mkA_cons, mkA_nil, List.setIfInBounds_toArray, List.set_cons_zero, List.set_cons_succ]
          go_wp2_with fail
          exact hS.pair rfl rfl (by kernel_rfl) ⟨z6, o6, L6, F6, l6, w6⟩ ⟨z13, o13, L13, F13, l13, w13⟩ (by first | (simp only [mkA_cons, mkA_nil, List.setIfInBounds_toArray, List.set_cons_zero, List.set_cons_succ, *]; done) | (simp only [mkA_cons, mkA_nil, List.setIfInBounds_toArray, List.set_cons_zero, List.set_cons_succ, *]; rfl))
        refine stepsM_cons (j := 16) rfl ?_ ?_
        · intro L ρ own u hS K hK
          obtain ⟨g13, c13, e13, z13, o13, L13, F13, l13, w13⟩ := hS.fact 13 rfl rfl (by kernel_rfl)
          change ρ 132 = _ at e13
          obtain ⟨q14, ga14, ca14, gb14, cb14, E14, e14, zq14, oq14, hb14, ⟨za14, oa14, La14, Fa14, la14, wa14⟩, ⟨zb14, ob14, Lb14, Fb14, lb14, wb14⟩⟩ := hS.fact 14 rfl rfl (by kernel_rfl)
          change ρ 133 = _ at e14
          have xa := (Ta.grew hS.inv).cell
          have xb := (Tb.grew hS.inv).cell
          have la := (Ta.grew hS.inv).lt
          have lb := (Tb.grew hS.inv).lt
          simp only [mkA_cons, mkA_nil, List.setIfInBounds_toArray, List.set_cons_zero, List.set_cons_succ]
          go_wp2_with (first | (go_at_call 87; ((with_reducible refine (prod_mi (ca := ca14) (cb := cb14) wa14 wb14 R2 R1 R0 (by decide) (by decide) Fa14 Fb14 (boxOf hb14)).mono ?_); rintro e w1 ⟨k, L, rfl, hz, hF, hm, oo, nn, rfl⟩)))
          exact hS.row rfl rfl (by kernel_rfl) (Kept.grew (by (show Grew _ _; (try simp only [← Array.append_assoc]); repeat (first | (with_reducible exact Grew.same_o) | (with_reducible exact Grew.refl _) | (with_reducible assumption) | (with_reducible refine Grew.alloc ?_ _) | (with_reducible refine Grew.app_r ?_) | ((with_reducible refine Grew.setCell ?_ ?_ _); rotate_left; (focus (dsimp only; first | omega | (simp only [size_ext, World.size_alloc, Array.size_append]; omega)))) | (with_reducible refine Grew.ext ?_ _ _) | (with_reducible refine Grew.drewN ?_ _) | (with_reducible refine Grew.drew ?_))))) (hS.thru.grew _ _ hS.inv (by (show Grew _ _; (try simp only [← Array.append_assoc]); repeat (first | (with_reducible exact Grew.same_o) | (with_reducible exact Grew.refl _) | (with_reducible assumption) | (with_reducible refine Grew.alloc ?_ _) | (with_reducible refine Grew.app_r ?_) | ((with_reducible refine Grew.setCell ?_ ?_ _); rotate_left; (focus (dsimp only; first | omega | (simp only [size_ext, World.size_alloc, Array.size_append]; omega)))) | (with_reducible refine Grew.ext ?_ _ _) | (with_reducible refine Grew.drewN ?_ _) | (with_reducible refine Grew.drew ?_))))) (hz) (hF) (hm.1) (hm) (by first | (simp only [mkA_cons, mkA_nil, List.setIfInBounds_toArray, List.set_cons_zero, List.set_cons_succ, *]; done) | (simp only [mkA_cons, mkA_nil, List.setIfInBounds_toArray, List.set_cons_zero, List.set_cons_succ, *]; rfl))
        refine stepsM_cons (j := 17) rfl ?_ ?_
        · intro L ρ own u hS K hK
          obtain ⟨g15, c15, e15, z15, o15, L15, F15, l15, w15⟩ := hS.fact 15 rfl rfl (by kernel_rfl)
          change ρ 134 = _ at e15
          have xa := (Ta.grew hS.inv).cell
          have xb := (Tb.grew hS.inv).cell
          have la := (Ta.grew hS.inv).lt
          have lb := (Tb.grew hS.inv).lt
          simp only [mkA_cons, mkA_nil, List.setIfInBounds_toArray, List.set_cons_zero, List.set_cons_succ]
          go_wp2_with fail
          exact hS.copy rfl rfl (by kernel_rfl) (by (show Grew _ _; (try simp only [← Array.append_assoc]); repeat (first | (with_reducible exact Grew.same_o) | (with_reducible exact Grew.refl _) | (with_reducible assumption) | (with_reducible refine Grew.alloc ?_ _) | (with_reducible refine Grew.app_r ?_) | ((with_reducible refine Grew.setCell ?_ ?_ _); rotate_left; (focus (dsimp only; first | omega | (simp only [size_ext, World.size_alloc, Array.size_append]; omega)))) | (with_reducible refine Grew.ext ?_ _ _) | (with_reducible refine Grew.drewN ?_ _) | (with_reducible refine Grew.drew ?_)))) ⟨z15, o15, L15, F15, l15, w15⟩ (by first | (simp only [mkA_cons, mkA_nil, List.setIfInBounds_toArray, List.set_cons_zero, List.set_cons_succ, *]; done) | (simp only [mkA_cons, mkA_nil, List.setIfInBounds_toArray, List.set_cons_zero, List.set_cons_succ, *]; rfl))
        refine stepsM_cons (j := 18) rfl ?_ ?_
        · intro L ρ own u hS K hK
          obtain ⟨g16, c16, e16, z16, o16, L16, F16, l16, w16⟩ := hS.fact 16 rfl rfl (by kernel_rfl)
          change ρ 118 = _ at e16
          have xa := (Ta.grew hS.inv).cell
          have xb := (Tb.grew hS.inv).cell
          have la := (Ta.grew hS.inv).lt
          have lb := (Tb.grew hS.inv).lt
          simp only [mkA_cons, mkA_nil, List.setIfInBounds_toArray, List.set_cons_zero, List.set_cons_succ]
          go_wp2_with fail
          exact hS.copy rfl rfl (by kernel_rfl) (by (show Grew _ _; (try simp only [← Array.append_assoc]); repeat (first | (with_reducible exact Grew.same_o) | (with_reducible exact Grew.refl _) | (with_reducible assumption) | (with_reducible refine Grew.alloc ?_ _) | (with_reducible refine Grew.app_r ?_) | ((with_reducible refine Grew.setCell ?_ ?_ _); rotate_left; (focus (dsimp only; first | omega | (simp only [size_ext, World.size_alloc, Array.size_append]; omega)))) | (with_reducible refine Grew.ext ?_ _ _) | (with_reducible refine Grew.drewN ?_ _) | (with_reducible refine Grew.drew ?_)))) ⟨z16, o16, L16, F16, l16, w16⟩ (by first | (simp only [mkA_cons, mkA_nil, List.setIfInBounds_toArray, List.set_cons_zero, List.set_cons_succ, *]; done) | (simp only [mkA_cons, mkA_nil, List.setIfInBounds_toArray, List.set_cons_zero, List.set_cons_succ, *]; rfl))
        refine stepsM_cons (j := 19) rfl ?_ ?_
        · intro L ρ own u hS K hK
          obtain ⟨g16, c16, e16, z16, o16, L16, F16, l16, w16⟩ := hS.fact 16 rfl rfl (by kernel_rfl)
          change ρ 118 = _ at e16
          have xa := (Ta.grew hS.inv).cell
          have xb := (Tb.grew hS.inv).cell
          have la := (Ta.grew hS.inv).lt
          have lb := (Tb.grew hS.inv).lt
          simp only [mkA_cons, mkA_nil, List.setIfInBounds_toArray, List.set_cons_zero, List.set_cons_succ]
          go_wp2_with fail
          exact hS.val rfl rfl (by kernel_rfl) (by (show Grew _ _; (try simp only [← Array.append_assoc]); repeat (first | (with_reducible exact Grew.same_o) | (with_reducible exact Grew.refl _) | (with_reducible assumption) | (with_reducible refine Grew.alloc ?_ _) | (with_reducible refine Grew.app_r ?_) | ((with_reducible refine Grew.setCell ?_ ?_ _); rotate_left; (focus (dsimp only; first | omega | (simp only [size_ext, World.size_alloc, Array.size_append]; omega)))) | (with_reducible refine Grew.ext ?_ _ _) | (with_reducible refine Grew.drewN ?_ _) | (with_reducible refine Grew.drew ?_)))) (by first | rfl | assumption) (by first | (simp only [mkA_cons, mkA_nil, List.setIfInBounds_toArray, List.set_cons_zero, List.set_cons_succ, *]; done) | (simp only [mkA_cons, mkA_nil, List.setIfInBounds_toArray, List.set_cons_zero, List.set_cons_succ, *]; rfl))
        refine stepsM_cons (j := 20) rfl ?_ ?_
        · intro L ρ own u hS K hK
          simp only [mkA_cons, mkA_nil, List.setIfInBounds_toArray, List.set_cons_zero, List.set_cons_succ]
          go_wp2_with fail
          exact hS.box rfl rfl (by kernel_rfl) rfl (by first | (simp only [mkA_cons, mkA_nil, List.setIfInBounds_toArray, List.set_cons_zero, List.set_cons_succ, *]; done) | (simp only [mkA_cons, mkA_nil, List.setIfInBounds_toArray, List.set_cons_zero, List.set_cons_succ, *]; rfl))
        refine stepsM_cons (j := 21) rfl ?_ ?_
        · intro L ρ own u hS K hK
          exact hS.put (kb := 19) (kr := 17) rfl rfl (by kernel_rfl) (by decide) (fun _ => rfl) rfl rfl (by kernel_rfl) rfl rfl rfl (by kernel_rfl) rfl (fun _ => rfl) rfl (by simp only [mkA_cons, mkA_nil, List.setIfInBounds_toArray, List.set_cons_zero, List.set_cons_succ]; rfl) (by simp only [mkA_cons, mkA_nil, List.setIfInBounds_toArray, List.set_cons_zero, List.set_cons_succ]; rfl) (by kernel_rfl) (fun _ _ _ => by kernel_rfl) hK
        refine stepsM_cons (j := 22) rfl ?_ ?_
        · intro L ρ own u hS K hK
          have e0 := hS.fact 0 rfl rfl (by kernel_rfl)
          change ρ 119 = _ at e0
          have e1 := hS.fact 1 rfl rfl (by kernel_rfl)
          change ρ 120 = _ at e1
          have e2 := hS.fact 2 rfl rfl (by kernel_rfl)
          change ρ 121 = _ at e2
          have e3 := hS.fact 3 rfl rfl (by kernel_rfl)
          change ρ 122 = _ at e3
          have e4 := hS.fact 4 rfl rfl (by kernel_rfl)
          change ρ 123 = _ at e4
          have e5 := hS.fact 5 rfl rfl (by kernel_rfl)
          change ρ 124 = _ at e5
          obtain ⟨g6, c6, e6, z6, o6, L6, F6, l6, w6⟩ := hS.fact 6 rfl rfl (by kernel_rfl)
          change ρ 125 = _ at e6
          have e7 := hS.fact 7 rfl rfl (by kernel_rfl)
          change ρ 126 = _ at e7
          have e8 := hS.fact 8 rfl rfl (by kernel_rfl)
          change ρ 127 = _ at e8
          have e9 := hS.fact 9 rfl rfl (by kernel_rfl)
          change ρ 128 = _ at e9
          have e10 := hS.fact 10 rfl rfl (by kernel_rfl)
          change ρ 129 = _ at e10
          have e11 := hS.fact 11 rfl rfl (by kernel_rfl)
          change ρ 130 = _ at e11
          have e12 := hS.fact 12 rfl rfl (by kernel_rfl)
          change ρ 131 = _ at e12
          obtain ⟨g13, c13, e13, z13, o13, L13, F13, l13, w13⟩ := hS.fact 13 rfl rfl (by kernel_rfl)
          change ρ 132 = _ at e13
          obtain ⟨q14, ga14, ca14, gb14, cb14, E14, e14, zq14, oq14, hb14, ⟨za14, oa14, La14, Fa14, la14, wa14⟩, ⟨zb14, ob14, Lb14, Fb14, lb14, wb14⟩⟩ := hS.fact 14 rfl rfl (by kernel_rfl)
          change ρ 133 = _ at e14
          obtain ⟨g15, c15, e15, z15, o15, L15, F15, l15, w15⟩ := hS.fact 15 rfl rfl (by kernel_rfl)
          change ρ 134 = _ at e15
          obtain ⟨g16, c16, e16, z16, o16, L16, F16, l16, w16⟩ := hS.fact 16 rfl rfl (by kernel_rfl)
          change ρ 118 = _ at e16
          obtain ⟨g17, c17, e17, z17, o17, L17, F17, l17, w17⟩ := hS.fact 17 rfl rfl (by kernel_rfl)
          change ρ 135 = _ at e17
          have e18 := hS.fact 18 rfl rfl (by kernel_rfl)
          change ρ 136 = _ at e18
          have xa := (Ta.grew hS.inv).cell
          have xb := (Tb.grew hS.inv).cell
          have la := (Ta.grew hS.inv).lt
          have lb := (Tb.grew hS.inv).lt
          simp only [mkA_cons, mkA_nil, List.setIfInBounds_toArray, List.set_cons_zero, List.set_cons_succ]
          go_wp2_with fail
          exact hS.val rfl rfl (by kernel_rfl) (by (show Grew _ _; (try simp only [← Array.append_assoc]); repeat (first | (with_reducible exact Grew.same_o) | (with_reducible exact Grew.refl _) | (with_reducible assumption) | (with_reducible refine Grew.alloc ?_ _) | (with_reducible refine Grew.app_r ?_) | ((with_reducible refine Grew.setCell ?_ ?_ _); rotate_left; (focus (dsimp only; first | omega | (simp only [size_ext, World.size_alloc, Array.size_append]; omega)))) | (with_reducible refine Grew.ext ?_ _ _) | (with_reducible refine Grew.drewN ?_ _) | (with_reducible refine Grew.drew ?_)))) (by first | rfl | assumption) (by first | (simp only [mkA_cons, mkA_nil, List.setIfInBounds_toArray, List.set_cons_zero, List.set_cons_succ, *]; done) | (simp only [mkA_cons, mkA_nil, List.setIfInBounds_toArray, List.set_cons_zero, List.set_cons_succ, *]; rfl))
        exact stepsM_nil
      obtain ⟨p20, g20, c20, E20, e20, ow20, zl20, bx20, gz20, gB20, L20, F20, l20, w20⟩ := hF 20 _ _ rfl rfl
      have Bx20 := boxOf bx20
      change ρ 22 = _ at e20
      have y0 := hF 0 _ _ rfl rfl
      change ρ 119 = _ at y0
      have y1 := hF 1 _ _ rfl rfl
      change ρ 120 = _ at y1
      have y2 := hF 2 _ _ rfl rfl
      change ρ 121 = _ at y2
      have y3 := hF 3 _ _ rfl rfl
      change ρ 122 = _ at y3
      have y4 := hF 4 _ _ rfl rfl
      change ρ 123 = _ at y4
      have y5 := hF 5 _ _ rfl rfl
      change ρ 124 = _ at y5
      have y7 := hF 7 _ _ rfl rfl
      change ρ 126 = _ at y7
      have y8 := hF 8 _ _ rfl rfl
      change ρ 127 = _ at y8
      have y9 := hF 9 _ _ rfl rfl
      change ρ 128 = _ at y9
      have y10 := hF 10 _ _ rfl rfl
      change ρ 129 = _ at y10
      have y11 := hF 11 _ _ rfl rfl
      change ρ 130 = _ at y11
      have y12 := hF 12 _ _ rfl rfl
      change ρ 131 = _ at y12
      have y18 := hF 18 _ _ rfl rfl
      change ρ 136 = _ at y18
      have y21 := hF 21 _ _ rfl rfl
      change ρ 23 = _ at y21
      simp only [mkA_cons, mkA_nil, List.setIfInBounds_toArray, List.set_cons_zero, List.set_cons_succ, e20, y0, y1, y2, y3, y4, y5, y7, y8, y9, y10, y11, y12, y18, y21]
      have Pt : Box U6 p20 #[.slice (some ⟨g20, 0, none⟩) (r2 * r0) c20, .int .i64 0, .int .i64 r2, .int .i64 r0, .int .i64 r2] := Bx20
      have Ft : FW U6 g20 L20 := F20
      have mt := w20
      clear hF Bx20 bx20 F20 w20 e20 t1 t2 k1 k2 y0 y1 y2 y3 y4 y5 y7 y8 y9 y10 y11 y12 y18 y21
      replace Pab := Pab.grew hI
      replace Px := Px.grew hI
      replace Py := Py.grew hI
      replace Fab := Fab.grew hI
      replace Fx := Fx.grew hI
      replace Fy := Fy.grew hI
      have gwU6 := Grew.trans gwU5 hI
      clear gwU5 hI Ta Tb Fta Ftb Pa Pb Pc Pbc Fa Fb Fc Fbc ta tb U5r
      have t1 := Pt.cell
      have t2 := Pab.cell
      have t3 := Px.cell
      have t4 := Py.cell
      have k1 := Pt.lt
      have k2 := Pab.lt
      have k3 := Px.lt
      have k4 := Py.lt
      have hxy : ∀ i j, i < r0 → j < r3 → mmul (mmul fa fb r1) fc r2 i j = mmul fa (mmul fb fc r2) r1 i j := fun i j _ _ => wassoc (fa i) (fun k => fc k j) fb r1 r2
      have htt : ∀ i j, i < r0 → j < r2 → mmul (fun i j => fb j i) (fun i j => fa j i) r1 j i = mmul fa fb r1 i j := fun i j _ _ => wturn (fun k => fb k j) (fun k => fa i k) r1
      have hfd : ∀ (v1 v2 v3 : Value) (w' : World), (Instr.field 51 (.agg #[v1, v2, v3]) 2).run Try.prog w' = .ok v3 w' := fun _ _ _ _ => by kernel_rfl
      go_upto_region 23 with (first | (go_at_call 74; ((with_reducible refine (great3_mi mt mab mx R2 R0 R0 R2 R0 R3 (Ft.grew (by (show Grew _ _; (try simp only [← Array.append_assoc]); repeat (first | (with_reducible exact Grew.same_o) | (with_reducible exact Grew.refl _) | (with_reducible assumption) | (with_reducible refine Grew.alloc ?_ _) | (with_reducible refine Grew.app_r ?_) | ((with_reducible refine Grew.setCell ?_ ?_ _); rotate_left; (focus (dsimp only; first | omega | (simp only [size_ext, World.size_alloc, Array.size_append]; omega)))) | (with_reducible refine Grew.ext ?_ _ _) | (with_reducible refine Grew.drewN ?_ _) | (with_reducible refine Grew.drew ?_))))) (Fab.grew (by (show Grew _ _; (try simp only [← Array.append_assoc]); repeat (first | (with_reducible exact Grew.same_o) | (with_reducible exact Grew.refl _) | (with_reducible assumption) | (with_reducible refine Grew.alloc ?_ _) | (with_reducible refine Grew.app_r ?_) | ((with_reducible refine Grew.setCell ?_ ?_ _); rotate_left; (focus (dsimp only; first | omega | (simp only [size_ext, World.size_alloc, Array.size_append]; omega)))) | (with_reducible refine Grew.ext ?_ _ _) | (with_reducible refine Grew.drewN ?_ _) | (with_reducible refine Grew.drew ?_))))) (Fx.grew (by (show Grew _ _; (try simp only [← Array.append_assoc]); repeat (first | (with_reducible exact Grew.same_o) | (with_reducible exact Grew.refl _) | (with_reducible assumption) | (with_reducible refine Grew.alloc ?_ _) | (with_reducible refine Grew.app_r ?_) | ((with_reducible refine Grew.setCell ?_ ?_ _); rotate_left; (focus (dsimp only; first | omega | (simp only [size_ext, World.size_alloc, Array.size_append]; omega)))) | (with_reducible refine Grew.ext ?_ _ _) | (with_reducible refine Grew.drewN ?_ _) | (with_reducible refine Grew.drew ?_)))))).mono ?_); rintro e w1 ⟨rfl, oa, na, rfl⟩)) | (go_at_call 42; ((with_reducible refine (great42_mi my R0 R3 (Fy.grew (by (show Grew _ _; (try simp only [← Array.append_assoc]); repeat (first | (with_reducible exact Grew.same_o) | (with_reducible exact Grew.refl _) | (with_reducible assumption) | (with_reducible refine Grew.alloc ?_ _) | (with_reducible refine Grew.app_r ?_) | ((with_reducible refine Grew.setCell ?_ ?_ _); rotate_left; (focus (dsimp only; first | omega | (simp only [size_ext, World.size_alloc, Array.size_append]; omega)))) | (with_reducible refine Grew.ext ?_ _ _) | (with_reducible refine Grew.drewN ?_ _) | (with_reducible refine Grew.drew ?_))))) _).mono ?_); rintro e w1 ⟨rfl, ob, nb, rfl⟩)))
      refine name_any (fun U7 hU7 => ?_)
      have gU7 : Grew U6 U7 := by rw [← hU7]; (show Grew _ _; (try simp only [← Array.append_assoc]); repeat (first | (with_reducible exact Grew.same_o) | (with_reducible exact Grew.refl _) | (with_reducible assumption) | (with_reducible refine Grew.alloc ?_ _) | (with_reducible refine Grew.app_r ?_) | ((with_reducible refine Grew.setCell ?_ ?_ _); rotate_left; (focus (dsimp only; first | omega | (simp only [size_ext, World.size_alloc, Array.size_append]; omega)))) | (with_reducible refine Grew.ext ?_ _ _) | (with_reducible refine Grew.drewN ?_ _) | (with_reducible refine Grew.drew ?_)))
      replace Pt := Pt.grew gU7
      replace Ft := Ft.grew gU7
      replace Pab := Pab.grew gU7
      replace Px := Px.grew gU7
      replace Py := Py.grew gU7
      replace Fab := Fab.grew gU7
      replace Fx := Fx.grew gU7
      replace Fy := Fy.grew gU7
      have gwU7 := Grew.trans gwU6 gU7
      clear hU7 gU7 gwU6 t1 t2 t3 t4 k1 k2 k3 k4
      have t1 := Pt.cell
      have t2 := Pab.cell
      have t3 := Px.cell
      have t4 := Py.cell
      have k1 := Pt.lt
      have k2 := Pab.lt
      have k3 := Px.lt
      have k4 := Py.lt
      refine wp_region_R (Grew U7) [] [(0,0), (0,1), (0,2), (0,3), (0,4), (1,5), (0,6), (0,7), (0,8), (1,9), (0,10), (0,11), (0,12), (1,13), (0,14), (0,15), (0,16), (0,20), (1,17), (1,18), (0,19), (1,21), (0,22), (1,23), (0,24), (0,25), (1,26), (0,27), (0,28)] (by kernel_rfl) (by kernel_rfl) (fun _ _ _ _ h _ => h) (by first | exact ⟨_, _, ext_drew⟩ | exact ⟨_, _, drew_ext0⟩ | (show Grew _ _; repeat (first | (with_reducible exact Grew.refl _) | (with_reducible assumption) | (with_reducible exact Grew.same_o) | (with_reducible exact Grew.app_o) | (with_reducible refine Grew.ext ?_ _ _) | (with_reducible refine Grew.alloc ?_ _) | ((with_reducible refine Grew.setCell ?_ ?_ _); rotate_left; (focus (dsimp only; first | omega | (simp only [size_ext, World.size_alloc, Array.size_append]; omega)))) | (with_reducible refine Grew.drewN ?_ _) | (with_reducible refine Grew.drew ?_)))) ?_
      go_wp2_with (first | ((with_reducible refine wpR_id ?_); first | (refine wpR_take (v := ?_) rfl rfl ?_ ?_; rotate_left; (focus (rintro w' ⟨o', n', rfl⟩; go_simp; try with_reducible rfl)); simp only [Act.put, List.setIfInBounds_toArray, List.set_cons_zero, List.set_cons_succ]) | (refine wpR_pure (v := ?_) rfl rfl ?_ ?_; rotate_left; (focus (intro w'; go_simp; try with_reducible rfl)); simp only [Act.put, List.setIfInBounds_toArray, List.set_cons_zero, List.set_cons_succ]) | (refine wpR_takeG (v := ?_) rfl rfl rfl rfl rfl ?_ ?_; rotate_left; (focus (rintro w' ⟨o', n', rfl⟩; go_simp; try with_reducible rfl)); simp only [Act.put, List.setIfInBounds_toArray, List.set_cons_zero, List.set_cons_succ]) | (refine wpR_skip rfl rfl rfl rfl rfl rfl ?_; simp only [Act.put, List.setIfInBounds_toArray, List.set_cons_zero, List.set_cons_succ]) | (refine wpR_skipU rfl rfl rfl rfl rfl ?_; simp only [Act.put, List.setIfInBounds_toArray, List.set_cons_zero, List.set_cons_succ]) | (refine wpR_do rfl rfl (fun K hK => ?_)) | (refine wpR_doG rfl rfl rfl rfl rfl (fun K hK => ?_)) | (refine wpR_last rfl rfl (fun K hK => ?_)) | (refine wpR_nil ?_)) | ((with_reducible refine wpR_go ?_ ?_); (focus (show Grew _ _; repeat (first | (with_reducible exact Grew.refl _) | (with_reducible assumption) | (with_reducible exact Grew.same_o) | (with_reducible exact Grew.app_o) | (with_reducible refine Grew.ext ?_ _ _) | (with_reducible refine Grew.alloc ?_ _) | ((with_reducible refine Grew.setCell ?_ ?_ _); rotate_left; (focus (dsimp only; first | omega | (simp only [size_ext, World.size_alloc, Array.size_append]; omega)))) | (with_reducible refine Grew.drewN ?_ _) | (with_reducible refine Grew.drew ?_))))) | ((with_reducible refine upon_id ?_); refine upon_fop rfl (by assumption) (by assumption) ?_; intro rr nn hr) | (go_at_call 89; ((with_reducible refine (equal_mi mx my R0 R3 (Fx.grew (by (show Grew _ _; (try simp only [← Array.append_assoc]); repeat (first | (with_reducible exact Grew.same_o) | (with_reducible exact Grew.refl _) | (with_reducible assumption) | (with_reducible refine Grew.alloc ?_ _) | (with_reducible refine Grew.app_r ?_) | ((with_reducible refine Grew.setCell ?_ ?_ _); rotate_left; (focus (dsimp only; first | omega | (simp only [size_ext, World.size_alloc, Array.size_append]; omega)))) | (with_reducible refine Grew.ext ?_ _ _) | (with_reducible refine Grew.drewN ?_ _) | (with_reducible refine Grew.drew ?_))))) (Fy.grew (by (show Grew _ _; (try simp only [← Array.append_assoc]); repeat (first | (with_reducible exact Grew.same_o) | (with_reducible exact Grew.refl _) | (with_reducible assumption) | (with_reducible refine Grew.alloc ?_ _) | (with_reducible refine Grew.app_r ?_) | ((with_reducible refine Grew.setCell ?_ ?_ _); rotate_left; (focus (dsimp only; first | omega | (simp only [size_ext, World.size_alloc, Array.size_append]; omega)))) | (with_reducible refine Grew.ext ?_ _ _) | (with_reducible refine Grew.drewN ?_ _) | (with_reducible refine Grew.drew ?_))))) hxy).mono ?_); rintro e w1 ⟨rfl, oa, na, rfl⟩)) | (go_at_call 46; ((with_reducible refine (good_mi mt R2 R0 (Ft.grew (by (show Grew _ _; (try simp only [← Array.append_assoc]); repeat (first | (with_reducible exact Grew.same_o) | (with_reducible exact Grew.refl _) | (with_reducible assumption) | (with_reducible refine Grew.alloc ?_ _) | (with_reducible refine Grew.app_r ?_) | ((with_reducible refine Grew.setCell ?_ ?_ _); rotate_left; (focus (dsimp only; first | omega | (simp only [size_ext, World.size_alloc, Array.size_append]; omega)))) | (with_reducible refine Grew.ext ?_ _ _) | (with_reducible refine Grew.drewN ?_ _) | (with_reducible refine Grew.drew ?_))))) _).mono ?_); rintro e w1 ⟨rfl, ob, nb, rfl⟩)) | (go_at_call 46; ((with_reducible refine (good_mi mab R0 R2 (Fab.grew (by (show Grew _ _; (try simp only [← Array.append_assoc]); repeat (first | (with_reducible exact Grew.same_o) | (with_reducible exact Grew.refl _) | (with_reducible assumption) | (with_reducible refine Grew.alloc ?_ _) | (with_reducible refine Grew.app_r ?_) | ((with_reducible refine Grew.setCell ?_ ?_ _); rotate_left; (focus (dsimp only; first | omega | (simp only [size_ext, World.size_alloc, Array.size_append]; omega)))) | (with_reducible refine Grew.ext ?_ _ _) | (with_reducible refine Grew.drewN ?_ _) | (with_reducible refine Grew.drew ?_))))) _).mono ?_); rintro e w1 ⟨rfl, oc, nc, rfl⟩)) | (go_at_call 48; ((with_reducible refine (of_mi mt R2 R0 (Ft.grew (by (show Grew _ _; (try simp only [← Array.append_assoc]); repeat (first | (with_reducible exact Grew.same_o) | (with_reducible exact Grew.refl _) | (with_reducible assumption) | (with_reducible refine Grew.alloc ?_ _) | (with_reducible refine Grew.app_r ?_) | ((with_reducible refine Grew.setCell ?_ ?_ _); rotate_left; (focus (dsimp only; first | omega | (simp only [size_ext, World.size_alloc, Array.size_append]; omega)))) | (with_reducible refine Grew.ext ?_ _ _) | (with_reducible refine Grew.drewN ?_ _) | (with_reducible refine Grew.drew ?_))))) _).mono ?_); rintro e w1 ⟨kt, ct, Tt, rfl, zt, FT, mT, ot, nt, rfl⟩; (try simp only [ext_drew, drew_ext, drewN_ext, ext_ext, Array.append_assoc] at FT))) | (go_at_call 88; ((with_reducible refine (turn_ti mT R2 R0 (FT.grew (by (show Grew _ _; (try simp only [← Array.append_assoc]); repeat (first | (with_reducible exact Grew.same_o) | (with_reducible exact Grew.refl _) | (with_reducible assumption) | (with_reducible refine Grew.alloc ?_ _) | (with_reducible refine Grew.app_r ?_) | ((with_reducible refine Grew.setCell ?_ ?_ _); rotate_left; (focus (dsimp only; first | omega | (simp only [size_ext, World.size_alloc, Array.size_append]; omega)))) | (with_reducible refine Grew.ext ?_ _ _) | (with_reducible refine Grew.drewN ?_ _) | (with_reducible refine Grew.drew ?_))))) _).mono ?_); rintro e w1 ⟨ku, Tu, rfl, zu, FU, mU, ou, nu, rfl⟩; (try simp only [ext_drew, drew_ext, drewN_ext, ext_ext, Array.append_assoc] at FU))) | (go_at_call 48; ((with_reducible refine (of_mi mab R0 R2 (Fab.grew (by (show Grew _ _; (try simp only [← Array.append_assoc]); repeat (first | (with_reducible exact Grew.same_o) | (with_reducible exact Grew.refl _) | (with_reducible assumption) | (with_reducible refine Grew.alloc ?_ _) | (with_reducible refine Grew.app_r ?_) | ((with_reducible refine Grew.setCell ?_ ?_ _); rotate_left; (focus (dsimp only; first | omega | (simp only [size_ext, World.size_alloc, Array.size_append]; omega)))) | (with_reducible refine Grew.ext ?_ _ _) | (with_reducible refine Grew.drewN ?_ _) | (with_reducible refine Grew.drew ?_))))) _).mono ?_); rintro e w1 ⟨kv, cv, Tv, rfl, zv, FV, mV, ov, nv, rfl⟩; (try simp only [ext_drew, drew_ext, drewN_ext, ext_ext, Array.append_assoc] at FV))) | (go_at_call 90; ((with_reducible refine (same_ti mU mV R0 R2 (FU.grew (by (show Grew _ _; (try simp only [← Array.append_assoc]); repeat (first | (with_reducible exact Grew.same_o) | (with_reducible exact Grew.refl _) | (with_reducible assumption) | (with_reducible refine Grew.alloc ?_ _) | (with_reducible refine Grew.app_r ?_) | ((with_reducible refine Grew.setCell ?_ ?_ _); rotate_left; (focus (dsimp only; first | omega | (simp only [size_ext, World.size_alloc, Array.size_append]; omega)))) | (with_reducible refine Grew.ext ?_ _ _) | (with_reducible refine Grew.drewN ?_ _) | (with_reducible refine Grew.drew ?_))))) (FV.grew (by (show Grew _ _; (try simp only [← Array.append_assoc]); repeat (first | (with_reducible exact Grew.same_o) | (with_reducible exact Grew.refl _) | (with_reducible assumption) | (with_reducible refine Grew.alloc ?_ _) | (with_reducible refine Grew.app_r ?_) | ((with_reducible refine Grew.setCell ?_ ?_ _); rotate_left; (focus (dsimp only; first | omega | (simp only [size_ext, World.size_alloc, Array.size_append]; omega)))) | (with_reducible refine Grew.ext ?_ _ _) | (with_reducible refine Grew.drewN ?_ _) | (with_reducible refine Grew.drew ?_))))) htt).mono ?_); rintro e w1 ⟨rfl, od, nd, rfl⟩)) | (go_at_call 73; ((with_reducible refine (awake11 _).mono ?_); rintro e w1 ⟨rfl, o1, m1, rfl⟩)))
      go_ret
      exact ⟨rfl, Grew.trans gwU7 (by (show Grew _ _; (try simp only [← Array.append_assoc]); repeat (first | (with_reducible exact Grew.same_o) | (with_reducible exact Grew.refl _) | (with_reducible assumption) | (with_reducible refine Grew.alloc ?_ _) | (with_reducible refine Grew.app_r ?_) | ((with_reducible refine Grew.setCell ?_ ?_ _); rotate_left; (focus (dsimp only; first | omega | (simp only [size_ext, World.size_alloc, Array.size_append]; omega)))) | (with_reducible refine Grew.ext ?_ _ _) | (with_reducible refine Grew.drewN ?_ _) | (with_reducible refine Grew.drew ?_))))⟩
end Go.Proofs.Ytcmggfpcbijcjaa
end
section
/-
  Lists of small whole numbers: their bounds.
-/
set_option linter.unusedSimpArgs false
set_option linter.unusedVariables false
open Go Go.RowKit Sedge
namespace Go.Proofs.Ytcmggfpcbijcjaa
theorem i8_abs {zs : List Int} (h : ∀ z ∈ zs, IntKind.min .i8 ≤ z ∧ z ≤ IntKind.max .i8) (k : Nat) : (zs.getD k 0).natAbs ≤ 128 := by
  by_cases hk : k < zs.length
  · have hm : zs.getD k 0 ∈ zs := by rw [List.getD_eq_getElem?_getD, List.getElem?_eq_getElem hk]; exact List.getElem_mem _
    have := h _ hm
    have h2 : -128 ≤ zs.getD k 0 ∧ zs.getD k 0 ≤ 127 := by simpa [IntKind.min, IntKind.max, IntKind.signed, IntKind.bits] using this
    omega
  · rw [List.getD_eq_getElem?_getD, List.getElem?_eq_none (by omega)]; decide
end Go.Proofs.Ytcmggfpcbijcjaa
end
section
/-
  The law GemmWhole (layer 11), of all its arguments.
-/
set_option linter.unusedSimpArgs false
set_option linter.unusedVariables false
open Go Go.RowKit Sedge
namespace Go.Proofs.Ytcmggfpcbijcjaa
theorem gemmWhole_any (VL : Value) (ls : List Int) (z0 z1 z2 z3 : Int) (w : World) (hL : IS .i8 w VL ls) (bL : ∀ z ∈ ls, IntKind.min .i8 ≤ z ∧ z ≤ IntKind.max .i8) (h0 : 0 ≤ z0 ∧ z0 ≤ 255) (h1 : 0 ≤ z1 ∧ z1 ≤ 255) (h2 : 0 ≤ z2 ∧ z2 ≤ 255) (h3 : 0 ≤ z3 ∧ z3 ≤ 255) :
    Calls Try.prog 14 #[VL, .agg #[.int .u8 z0, .int .u8 z1, .int .u8 z2, .int .u8 z3]] w (fun e w' => e = .returned (.bool true) ∧ ∃ o n, w' = ext w o n) := by
  obtain ⟨a, cap, rfl⟩ := hL.shape
  obtain ⟨y0, rfl⟩ : ∃ u : Nat, z0 = u := ⟨z0.toNat, by omega⟩
  obtain ⟨y1, rfl⟩ : ∃ u : Nat, z1 = u := ⟨z1.toNat, by omega⟩
  obtain ⟨y2, rfl⟩ : ∃ u : Nat, z2 = u := ⟨z2.toNat, by omega⟩
  obtain ⟨y3, rfl⟩ : ∃ u : Nat, z3 = u := ⟨z3.toNat, by omega⟩
  exact whole_main a cap ls y0 y1 y2 y3 (1 + y0 % 6) (1 + y1 % 6) (1 + y2 % 6) (1 + y3 % 6) (by omega) (by omega) (by omega) (by omega) (by omega) (by omega) (by omega) (by omega) w hL (i8_abs bL)
end Go.Proofs.Ytcmggfpcbijcjaa
end
section
/-
  An array of four bytes that came in, opened.
-/
set_option linter.unusedSimpArgs false
set_option linter.unusedVariables false
open Go Go.RowKit Sedge
namespace Sedge
open Go Go.RowKit
section
variable {H : Type} {enc : TypeId × Value → H} {P : Program} {w : World} {base : Nat} {spare : Nat → Bool} {held : Bool}
theorem openA4 {r : Reach} {b0 : Nat} {t e : TypeId} {v : Value} {d : DataW H} {p : List MemPlace} (ht : P.underlying t = some (.array 4 e)) (he : P.underlying e = some (.int .u8)) (he1 : P.cellsOf e = 1) (hC : P.cellsOf t = 4)
    (hv : Value.okWide P w r b0 t v) (h : DataW.Trod enc P w base spare held t v d p) :
    ∃ z0 z1 z2 z3 : Int, v = .agg #[.int .u8 z0, .int .u8 z1, .int .u8 z2, .int .u8 z3] ∧ (0 ≤ z0 ∧ z0 ≤ 255) ∧ (0 ≤ z1 ∧ z1 ≤ 255) ∧ (0 ≤ z2 ∧ z2 ≤ 255) ∧ (0 ≤ z3 ∧ z3 ≤ 255) := by
  simp only [Value.okWide, ht] at hv
  obtain ⟨cs, rfl, hsz, _⟩ := hv
  obtain ⟨fuel, hf⟩ := h
  obtain ⟨xs, m, _, _, hl, hlen, hg⟩ := DataW.trod_array ht hf
  obtain ⟨l⟩ := cs
  have hl4 : l.length = 4 := by simpa [hC] using hsz
  match l, hl4 with
  | [c0, c1, c2, c3], _ =>
    match xs, hlen with
    | [x0, x1, x2, x3], _ =>
      have g0 : DataW.trod enc P w base spare held m e [c0] = some x0 := by have := hg 0 (by decide); simpa [he1, Value.cells] using this
      have g1 : DataW.trod enc P w base spare held m e [c1] = some x1 := by have := hg 1 (by decide); simpa [he1, Value.cells] using this
      have g2 : DataW.trod enc P w base spare held m e [c2] = some x2 := by have := hg 2 (by decide); simpa [he1, Value.cells] using this
      have g3 : DataW.trod enc P w base spare held m e [c3] = some x3 := by have := hg 3 (by decide); simpa [he1, Value.cells] using this
      have hb : ∀ c x, DataW.trod enc P w base spare held m e [c] = some x → ∃ z : Int, c = .int .u8 z ∧ 0 ≤ z ∧ z ≤ 255 := fun c x hx => by
        obtain ⟨z, h1, _, h3⟩ := DataW.trod_int he hx
        exact ⟨z, by simpa using h1, by simpa [Lit.wf, IntKind.min, IntKind.max, IntKind.signed, IntKind.bits] using h3⟩
      obtain ⟨z0, rfl, b0⟩ := hb _ _ g0
      obtain ⟨z1, rfl, b1⟩ := hb _ _ g1
      obtain ⟨z2, rfl, b2⟩ := hb _ _ g2
      obtain ⟨z3, rfl, b3⟩ := hb _ _ g3
      exact ⟨z0, z1, z2, z3, rfl, b0, b1, b2, b3⟩
end
end Sedge
end
