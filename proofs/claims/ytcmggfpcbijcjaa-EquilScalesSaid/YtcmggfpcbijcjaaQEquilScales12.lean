/-
  Texts laid one behind the other (a claim has at most 60 files): Dy9, Dy5, Exa1, ScaP, LawSca, Head.
-/
import Derived.Deep.CutBlock
import Derived.Deep.DeepCutAuto
import Derived.Test.YtcmggfpcbijcjaaRows
import Derived.ProofKit
import Derived.Test.YtcmggfpcbijcjaaQEquilScales1
import Derived.Test.YtcmggfpcbijcjaaQEquilScales2
import Derived.Test.YtcmggfpcbijcjaaQEquilScales3
import Derived.Test.YtcmggfpcbijcjaaQEquilScales4
import Derived.Test.YtcmggfpcbijcjaaQEquilScales5
import Derived.Test.YtcmggfpcbijcjaaQEquilScales6
import Derived.Test.YtcmggfpcbijcjaaQEquilScales7
import Derived.Test.YtcmggfpcbijcjaaQEquilScales8
import Derived.Test.YtcmggfpcbijcjaaQEquilScales9
import Derived.Test.YtcmggfpcbijcjaaQEquilScales10
import Derived.Test.YtcmggfpcbijcjaaQEquilScales11
section
/-
  Contracts: the reference's digits (layer 2): Minus, Abs, Sign, Sub, Cmp.
-/
set_option linter.unusedSimpArgs false
set_option linter.unusedVariables false
open Go Go.RowKit Sedge
namespace Go.Proofs.Ytcmggfpcbijcjaa
theorem dat_flip (s : Bool) (m : Nat) (p : Int) : dat (!s) m p = -dat s m p := dat_not s m p
theorem dat_absq (s : Bool) (m : Nat) (p : Int) : dat false m p = (dat s m p).abs := by
  rw [dat_abs]; unfold dat sgn; simp
theorem grew_set4 {w X : World} (g : Grew w X) {a : Addr} (ha : w.heap.size ≤ a.block) (x : Value) : Grew w (X.setCell a x) := g.setCell ha x
set_option maxRecDepth 100000 in
set_option maxHeartbeats 1000000 in
/-- Minus. -/
theorem dminus_any (V : Value) (q : Rat) (lo hi : Int) (w : World) (h : DV w V q lo hi) :
   Calls Try.prog 81 #[V] w (fun e w' => ∃ v, e = .returned v ∧ DV w' v (-q) lo hi ∧ (dBlock v = dBlock V ∧ dLen v = dLen V) ∧ ∃ o n, w' = ext w o n) := by
  obtain ⟨ng, L, E, l, rfl, hN, hD, hq, h0, h1, h2⟩ := h
  obtain ⟨sa, sc, rfl⟩ := hN.shape
  have hq' : -q = dat (!ng) (dv l) (16 * E) := by rw [dat_flip, ← hq]
  obtain ⟨r, hr⟩ : ∃ r, r = -q := ⟨_, rfl⟩
  rw [← hr] at hq' ⊢
  clear hr hq
  obtain ⟨n, hn⟩ : ∃ n, n = l.length := ⟨_, rfl⟩
  rw [← hn] at hN ⊢
  by_cases hl : l = []
  · subst hl
    have hn0 : n = 0 := hn
    subst hn0
    clear hn
    obtain ⟨rfl, rfl⟩ := h1 rfl
    have hH := hid hq'
    clear hq' h0 h1 h2
    go_enter Try.func81, Try.ntmps81
    refine seq_stop ?_
    go_wp2
    refine stop_go (fun W hW => ?_)
    have s1 : w.heap.size < W.heap.size := by rw [hW]; simp only [World.size_alloc]; omega
    have b1 : ∀ i, W.cell? ⟨w.heap.size, i, none⟩ = (#[.bool false, .slice sa 0 sc, .int .i64 0] : Array Value)[i]? := by intro i; rw [hW]; go_simp
    have f1 : ∀ i, W.frozen? ⟨w.heap.size, i, none⟩ = false := by intro i; rw [hW]; go_simp
    have s2 : w.heap.size + 1 < W.heap.size := by rw [hW]; simp only [World.size_alloc]; omega
    have b2 : ∀ i, W.cell? ⟨w.heap.size + 1, i, none⟩ = (#[.bool false, .slice none 0 0, .int .i64 0] : Array Value)[i]? := by intro i; rw [hW]; go_simp
    have f2 : ∀ i, W.frozen? ⟨w.heap.size + 1, i, none⟩ = false := by intro i; rw [hW]; go_simp
    have g0 : Grew w W := by rw [hW]; exact ((Grew.refl _).alloc _).alloc _
    clear hW
    go_wp2
    refine bodyPost_ret (by simp [results, Try.results81, go_sem, *]; rfl) rfl ?_
    have gw : Grew w (((W.setCell ⟨w.heap.size + 1, 0, none⟩ (.bool false)).setCell ⟨w.heap.size + 1, 1, none⟩ (.slice sa 0 sc)).setCell ⟨w.heap.size + 1, 2, none⟩ (.int .i64 0)) := by (show Grew _ _; repeat (first | (with_reducible exact Grew.refl _) | (with_reducible assumption) | (with_reducible exact Grew.same_o) | (with_reducible exact Grew.app_o) | (with_reducible refine Grew.ext ?_ _ _) | (with_reducible refine Grew.alloc ?_ _) | ((with_reducible refine Grew.setCell ?_ ?_ _); rotate_left; (focus (dsimp only; first | omega | (simp only [size_ext, World.size_alloc, Array.size_append]; omega)))) | (with_reducible refine Grew.drewN ?_ _) | (with_reducible refine Grew.drew ?_)))
    refine ⟨_, rfl, ⟨false, _, 0, [], rfl, hN.grew gw, hD, ?_, fun _ => rfl, fun _ => ⟨rfl, rfl⟩, fun h => absurd rfl h⟩, ⟨rfl, rfl⟩, gw⟩
    rw [hH.out]; show dat _ 0 _ = dat _ 0 _; rw [dat_zero, dat_zero]
  · have hln : 0 < n := by rw [hn]; exact List.length_pos_iff.2 hl
    clear hn
    have hH := hid hq'
    clear hq'
    go_enter Try.func81, Try.ntmps81
    refine seq_stop ?_
    go_wp2
    refine stop_go (fun W hW => ?_)
    have s1 : w.heap.size < W.heap.size := by rw [hW]; simp only [World.size_alloc]; omega
    have b1 : ∀ i, W.cell? ⟨w.heap.size, i, none⟩ = (#[.bool ng, .slice sa n sc, .int .i64 E] : Array Value)[i]? := by intro i; rw [hW]; go_simp
    have f1 : ∀ i, W.frozen? ⟨w.heap.size, i, none⟩ = false := by intro i; rw [hW]; go_simp
    have s2 : w.heap.size + 1 < W.heap.size := by rw [hW]; simp only [World.size_alloc]; omega
    have b2 : ∀ i, W.cell? ⟨w.heap.size + 1, i, none⟩ = (#[.bool false, .slice none 0 0, .int .i64 0] : Array Value)[i]? := by intro i; rw [hW]; go_simp
    have f2 : ∀ i, W.frozen? ⟨w.heap.size + 1, i, none⟩ = false := by intro i; rw [hW]; go_simp
    have g0 : Grew w W := by rw [hW]; exact ((Grew.refl _).alloc _).alloc _
    clear hW
    go_wp2
    refine bodyPost_ret (by simp [results, Try.results81, go_sem, *]; rfl) rfl ?_
    have gw : Grew w ((((W.setCell ⟨w.heap.size, 0, none⟩ (.bool (!ng))).setCell ⟨w.heap.size + 1, 0, none⟩ (.bool (!ng))).setCell ⟨w.heap.size + 1, 1, none⟩ (.slice sa n sc)).setCell ⟨w.heap.size + 1, 2, none⟩ (.int .i64 E)) := by (show Grew _ _; repeat (first | (with_reducible exact Grew.refl _) | (with_reducible assumption) | (with_reducible exact Grew.same_o) | (with_reducible exact Grew.app_o) | (with_reducible refine Grew.ext ?_ _ _) | (with_reducible refine Grew.alloc ?_ _) | ((with_reducible refine Grew.setCell ?_ ?_ _); rotate_left; (focus (dsimp only; first | omega | (simp only [size_ext, World.size_alloc, Array.size_append]; omega)))) | (with_reducible refine Grew.drewN ?_ _) | (with_reducible refine Grew.drew ?_)))
    exact ⟨_, rfl, ⟨!ng, _, E, l, rfl, hN.grew gw, hD, hH.out, h0, fun h => absurd h hl, h2⟩, ⟨rfl, rfl⟩, gw⟩
set_option maxRecDepth 100000 in
set_option maxHeartbeats 1000000 in
/-- Abs. -/
theorem dabs_any (V : Value) (q : Rat) (lo hi : Int) (w : World) (h : DV w V q lo hi) :
   Calls Try.prog 30 #[V] w (fun e w' => ∃ v, e = .returned v ∧ DV w' v q.abs lo hi ∧ (dBlock v = dBlock V ∧ dLen v = dLen V) ∧ ∃ o n, w' = ext w o n) := by
  obtain ⟨ng, L, E, l, rfl, hN, hD, hq, h0, h1, h2⟩ := h
  obtain ⟨sa, sc, rfl⟩ := hN.shape
  have hq' : q.abs = dat false (dv l) (16 * E) := by rw [dat_absq ng, ← hq]
  obtain ⟨r, hr⟩ : ∃ r, r = q.abs := ⟨_, rfl⟩
  rw [← hr] at hq' ⊢
  clear hr hq
  obtain ⟨n, hn⟩ : ∃ n, n = l.length := ⟨_, rfl⟩
  rw [← hn] at hN ⊢
  have hH := hid hq'
  clear hq' hn
  go_enter Try.func30, Try.ntmps30
  refine seq_stop ?_
  go_wp2
  refine stop_go (fun W hW => ?_)
  have s1 : w.heap.size < W.heap.size := by rw [hW]; simp only [World.size_alloc]; omega
  have b1 : ∀ i, W.cell? ⟨w.heap.size, i, none⟩ = (#[.bool ng, .slice sa n sc, .int .i64 E] : Array Value)[i]? := by intro i; rw [hW]; go_simp
  have f1 : ∀ i, W.frozen? ⟨w.heap.size, i, none⟩ = false := by intro i; rw [hW]; go_simp
  have s2 : w.heap.size + 1 < W.heap.size := by rw [hW]; simp only [World.size_alloc]; omega
  have b2 : ∀ i, W.cell? ⟨w.heap.size + 1, i, none⟩ = (#[.bool false, .slice none 0 0, .int .i64 0] : Array Value)[i]? := by intro i; rw [hW]; go_simp
  have f2 : ∀ i, W.frozen? ⟨w.heap.size + 1, i, none⟩ = false := by intro i; rw [hW]; go_simp
  have g0 : Grew w W := by rw [hW]; exact ((Grew.refl _).alloc _).alloc _
  clear hW
  go_wp2
  refine bodyPost_ret (by simp [results, Try.results30, go_sem, *]; rfl) rfl ?_
  have gw : Grew w ((((W.setCell ⟨w.heap.size, 0, none⟩ (.bool false)).setCell ⟨w.heap.size + 1, 0, none⟩ (.bool false)).setCell ⟨w.heap.size + 1, 1, none⟩ (.slice sa n sc)).setCell ⟨w.heap.size + 1, 2, none⟩ (.int .i64 E)) := by (show Grew _ _; repeat (first | (with_reducible exact Grew.refl _) | (with_reducible assumption) | (with_reducible exact Grew.same_o) | (with_reducible exact Grew.app_o) | (with_reducible refine Grew.ext ?_ _ _) | (with_reducible refine Grew.alloc ?_ _) | ((with_reducible refine Grew.setCell ?_ ?_ _); rotate_left; (focus (dsimp only; first | omega | (simp only [size_ext, World.size_alloc, Array.size_append]; omega)))) | (with_reducible refine Grew.drewN ?_ _) | (with_reducible refine Grew.drew ?_)))
  exact ⟨_, rfl, ⟨false, _, E, l, rfl, hN.grew gw, hD, hH.out, h0, fun h => ⟨(h1 h).1, rfl⟩, h2⟩, ⟨rfl, rfl⟩, gw⟩
def sgE (q : Rat) : Int := if q = 0 then 0 else if q < 0 then -1 else 1
theorem sgE_dat (ng : Bool) (m : Nat) (p : Int) : sgE (dat ng m p) = if m = 0 then 0 else if ng = true then -1 else 1 := by
  unfold sgE
  by_cases hm : m = 0
  · rw [if_pos hm, hm, dat_zero, if_pos rfl]
  · have h1 : dat ng m p ≠ 0 := fun h => hm (dat_eq_zero h)
    have h2 : (0 : Rat) < (m : Rat) * p2 p := Rat.mul_pos (Rat.natCast_pos.2 (Nat.pos_of_ne_zero hm)) (p2_pos p)
    rw [if_neg hm, if_neg h1]
    cases ng
    · rw [if_neg (by unfold dat sgn; simp; grind), if_neg (by decide)]
    · rw [if_pos (by unfold dat sgn; simp; grind), if_pos rfl]
set_option maxRecDepth 100000 in
set_option maxHeartbeats 1000000 in
/-- Sign. -/
theorem dsign_any (V : Value) (q : Rat) (lo hi : Int) (w : World) (h : DV w V q lo hi) :
   Calls Try.prog 126 #[V] w (fun e w' => e = .returned (.int .i64 (sgE q)) ∧ ∃ o n, w' = ext w o n) := by
  obtain ⟨ng, L, E, l, rfl, hN, hD, hq, h0, h1, h2⟩ := h
  obtain ⟨sa, sc, rfl⟩ := hN.shape
  obtain ⟨r, hr⟩ : ∃ r, r = sgE q := ⟨_, rfl⟩
  have hr2 : r = if dv l = 0 then 0 else if ng = true then -1 else 1 := by rw [hr, hq, sgE_dat]
  rw [← hr]
  clear hr hq hN
  obtain ⟨n, hn⟩ : ∃ n, n = l.length := ⟨_, rfl⟩
  rw [← hn]
  by_cases hl : l = []
  · subst hl
    have hn0 : n = 0 := hn
    subst hn0
    clear hn
    have hR := hid (show r = 0 by rw [hr2]; rfl)
    clear hr2
    go_enter Try.func126, Try.ntmps126
    refine seq_stop ?_
    go_wp2
    refine stop_go (fun W hW => ?_)
    have s1 : w.heap.size < W.heap.size := by rw [hW]; simp only [World.size_alloc]; omega
    have b1 : ∀ i, W.cell? ⟨w.heap.size, i, none⟩ = (#[.bool ng, .slice sa 0 sc, .int .i64 E] : Array Value)[i]? := by intro i; rw [hW]; go_simp
    have g0 : Grew w W := by rw [hW]; exact (Grew.refl _).alloc _
    clear hW
    go_wp2
    go_ret
    exact ⟨ret_int hR.out.symm, by (show Grew _ _; repeat (first | (with_reducible exact Grew.refl _) | (with_reducible assumption) | (with_reducible exact Grew.same_o) | (with_reducible exact Grew.app_o) | (with_reducible refine Grew.ext ?_ _ _) | (with_reducible refine Grew.alloc ?_ _) | ((with_reducible refine Grew.setCell ?_ ?_ _); rotate_left; (focus (dsimp only; first | omega | (simp only [size_ext, World.size_alloc, Array.size_append]; omega)))) | (with_reducible refine Grew.drewN ?_ _) | (with_reducible refine Grew.drew ?_)))⟩
  · have hln : ((n : Int) == 0) = false := by rw [beq_eq_false_iff_ne, hn]; have := List.length_pos_iff.2 hl; omega
    clear hn
    rw [if_neg (fun h => hl (h0 h))] at hr2
    cases ng
    · have hR := hid (show r = 1 from hr2)
      clear hr2
      go_enter Try.func126, Try.ntmps126
      refine seq_stop ?_
      go_wp2
      refine stop_go (fun W hW => ?_)
      have s1 : w.heap.size < W.heap.size := by rw [hW]; simp only [World.size_alloc]; omega
      have b1 : ∀ i, W.cell? ⟨w.heap.size, i, none⟩ = (#[.bool false, .slice sa n sc, .int .i64 E] : Array Value)[i]? := by intro i; rw [hW]; go_simp
      have g0 : Grew w W := by rw [hW]; exact (Grew.refl _).alloc _
      clear hW
      go_wp2
      go_ret
      exact ⟨ret_int hR.out.symm, by (show Grew _ _; repeat (first | (with_reducible exact Grew.refl _) | (with_reducible assumption) | (with_reducible exact Grew.same_o) | (with_reducible exact Grew.app_o) | (with_reducible refine Grew.ext ?_ _ _) | (with_reducible refine Grew.alloc ?_ _) | ((with_reducible refine Grew.setCell ?_ ?_ _); rotate_left; (focus (dsimp only; first | omega | (simp only [size_ext, World.size_alloc, Array.size_append]; omega)))) | (with_reducible refine Grew.drewN ?_ _) | (with_reducible refine Grew.drew ?_)))⟩
    · have hR := hid (show r = -1 from hr2)
      clear hr2
      go_enter Try.func126, Try.ntmps126
      refine seq_stop ?_
      go_wp2
      refine stop_go (fun W hW => ?_)
      have s1 : w.heap.size < W.heap.size := by rw [hW]; simp only [World.size_alloc]; omega
      have b1 : ∀ i, W.cell? ⟨w.heap.size, i, none⟩ = (#[.bool true, .slice sa n sc, .int .i64 E] : Array Value)[i]? := by intro i; rw [hW]; go_simp
      have g0 : Grew w W := by rw [hW]; exact (Grew.refl _).alloc _
      clear hW
      go_wp2
      go_ret
      exact ⟨ret_int hR.out.symm, by (show Grew _ _; repeat (first | (with_reducible exact Grew.refl _) | (with_reducible assumption) | (with_reducible exact Grew.same_o) | (with_reducible exact Grew.app_o) | (with_reducible refine Grew.ext ?_ _ _) | (with_reducible refine Grew.alloc ?_ _) | ((with_reducible refine Grew.setCell ?_ ?_ _); rotate_left; (focus (dsimp only; first | omega | (simp only [size_ext, World.size_alloc, Array.size_append]; omega)))) | (with_reducible refine Grew.drewN ?_ _) | (with_reducible refine Grew.drew ?_)))⟩
set_option maxRecDepth 100000 in
set_option maxHeartbeats 1000000 in
/-- Sub. -/
theorem dsub_any (V1 V2 : Value) (p q : Rat) (lo hi : Int) (w : World) (h1 : DV w V1 p lo hi) (h2 : DV w V2 q lo hi) (hlo : -100000 ≤ lo) (hhi : hi ≤ 100000) :
   Calls Try.prog 29 #[V1, V2] w (fun e w' => ∃ v, e = .returned v ∧ DV w' v (p - q) lo (hi + 1) ∧ (∀ k, dBlock v = some k → w.heap.size ≤ k) ∧ ∃ o n, w' = ext w o n) := by
  have hm : ∀ w', Grew w w' → Calls Try.prog 81 #[V2] w' (fun e w2 => ∃ v, e = .returned v ∧ DV w2 v (-q) lo hi ∧ ∃ o n, w2 = ext w' o n) := fun w' g => by
    refine (dminus_any V2 q lo hi w' (h2.grew g)).mono fun e w2 hh => ?_
    obtain ⟨v, a1, a2, _, a4⟩ := hh
    exact ⟨v, a1, a2, a4⟩
  have ha : ∀ V w', Grew w w' → DV w' V (-q) lo hi → Calls Try.prog 31 #[V1, V] w' (fun e w2 => ∃ v, e = .returned v ∧ DV w2 v (p - q) lo (hi + 1) ∧ (∀ k, dBlock v = some k → w'.heap.size ≤ k) ∧ ∃ o n, w2 = ext w' o n) := fun V w' g hv => by
    have := dadd_any V1 V p (-q) lo hi w' (h1.grew g) hv hlo hhi
    rw [← Rat.sub_eq_add_neg] at this
    exact this
  obtain ⟨na, aa, al, ac, aE, rfl⟩ := h1.shape
  obtain ⟨nb, ba, bl, bc, bE, rfl⟩ := h2.shape
  clear h1 h2 hlo hhi
  go_enter Try.func29, Try.ntmps29
  refine seq_stop ?_
  go_wp2
  refine stop_go (fun W hW => ?_)
  have s1 : w.heap.size < W.heap.size := by rw [hW]; simp only [World.size_alloc]; omega
  have b1 : ∀ i, W.cell? ⟨w.heap.size, i, none⟩ = (#[.bool na, .slice aa al ac, .int .i64 aE] : Array Value)[i]? := by intro i; rw [hW]; go_simp
  have f1 : ∀ i, W.frozen? ⟨w.heap.size, i, none⟩ = false := by intro i; rw [hW]; go_simp
  have s2 : w.heap.size + 1 < W.heap.size := by rw [hW]; simp only [World.size_alloc]; omega
  have b2 : ∀ i, W.cell? ⟨w.heap.size + 1, i, none⟩ = (#[.bool nb, .slice ba bl bc, .int .i64 bE] : Array Value)[i]? := by intro i; rw [hW]; go_simp
  have f2 : ∀ i, W.frozen? ⟨w.heap.size + 1, i, none⟩ = false := by intro i; rw [hW]; go_simp
  have s3 : w.heap.size + 1 + 1 < W.heap.size := by rw [hW]; simp only [World.size_alloc]; omega
  have b3 : ∀ i, W.cell? ⟨w.heap.size + 1 + 1, i, none⟩ = (#[.bool false, .slice none 0 0, .int .i64 0] : Array Value)[i]? := by intro i; rw [hW]; go_simp
  have f3 : ∀ i, W.frozen? ⟨w.heap.size + 1 + 1, i, none⟩ = false := by intro i; rw [hW]; go_simp
  have g0 : Grew w W := by rw [hW]; exact (((Grew.refl _).alloc _).alloc _).alloc _
  clear hW
  go_wp2
  refine wp_region_R (Grew W) [4] [(0,0), (0,1), (1,2), (1,3), (2,4)] (by kernel_rfl) (by kernel_rfl) (fun _ _ _ _ h _ => h) (by first | exact ⟨_, _, ext_drew⟩ | exact ⟨_, _, drew_ext0⟩ | (show Grew _ _; repeat (first | (with_reducible exact Grew.refl _) | (with_reducible assumption) | (with_reducible exact Grew.same_o) | (with_reducible exact Grew.app_o) | (with_reducible refine Grew.ext ?_ _ _) | (with_reducible refine Grew.alloc ?_ _) | ((with_reducible refine Grew.setCell ?_ ?_ _); rotate_left; (focus (dsimp only; first | omega | (simp only [size_ext, World.size_alloc, Array.size_append]; omega)))) | (with_reducible refine Grew.drewN ?_ _) | (with_reducible refine Grew.drew ?_)))) ?_
  go_wp2_with (first | ((with_reducible refine wpR_id ?_); first | (refine wpR_take (v := ?_) rfl rfl ?_ ?_; rotate_left; (focus (rintro w' ⟨o', n', rfl⟩; go_simp; try with_reducible rfl)); simp only [Act.put, List.setIfInBounds_toArray, List.set_cons_zero, List.set_cons_succ]) | (refine wpR_pure (v := ?_) rfl rfl ?_ ?_; rotate_left; (focus (intro w'; go_simp; try with_reducible rfl)); simp only [Act.put, List.setIfInBounds_toArray, List.set_cons_zero, List.set_cons_succ]) | (refine wpR_takeG (v := ?_) rfl rfl rfl rfl rfl ?_ ?_; rotate_left; (focus (rintro w' ⟨o', n', rfl⟩; go_simp; try with_reducible rfl)); simp only [Act.put, List.setIfInBounds_toArray, List.set_cons_zero, List.set_cons_succ]) | (refine wpR_skip rfl rfl rfl rfl rfl rfl ?_; simp only [Act.put, List.setIfInBounds_toArray, List.set_cons_zero, List.set_cons_succ]) | (refine wpR_skipU rfl rfl rfl rfl rfl ?_; simp only [Act.put, List.setIfInBounds_toArray, List.set_cons_zero, List.set_cons_succ]) | (refine wpR_do rfl rfl (fun K hK => ?_)) | (refine wpR_doG rfl rfl rfl rfl rfl (fun K hK => ?_)) | (refine wpR_last rfl rfl (fun K hK => ?_)) | (refine wpR_nil ?_)) | ((with_reducible refine wpR_go ?_ ?_); (focus (show Grew _ _; repeat (first | (with_reducible exact Grew.refl _) | (with_reducible assumption) | (with_reducible exact Grew.same_o) | (with_reducible exact Grew.app_o) | (with_reducible refine Grew.ext ?_ _ _) | (with_reducible refine Grew.alloc ?_ _) | ((with_reducible refine Grew.setCell ?_ ?_ _); rotate_left; (focus (dsimp only; first | omega | (simp only [size_ext, World.size_alloc, Array.size_append]; omega)))) | (with_reducible refine Grew.drewN ?_ _) | (with_reducible refine Grew.drew ?_))))) | ((with_reducible refine upon_id ?_); refine upon_fop rfl (by assumption) (by assumption) ?_; intro rr nn hr) | (go_at_call 81; ((with_reducible refine (hm _ (Grew.trans g0 (by (show Grew _ _; repeat (first | (with_reducible exact Grew.refl _) | (with_reducible assumption) | (with_reducible exact Grew.same_o) | (with_reducible exact Grew.app_o) | (with_reducible refine Grew.ext ?_ _ _) | (with_reducible refine Grew.alloc ?_ _) | ((with_reducible refine Grew.setCell ?_ ?_ _); rotate_left; (focus (dsimp only; first | omega | (simp only [size_ext, World.size_alloc, Array.size_append]; omega)))) | (with_reducible refine Grew.drewN ?_ _) | (with_reducible refine Grew.drew ?_)))))).mono ?_); rintro e w1 ⟨u, rfl, hu, o1, k1, rfl⟩; (try simp only [drew_ext, drewN_ext, ext_ext] at hu); obtain ⟨un, ua, ul, uc, uE, rfl⟩ := hu.shape)) | (go_at_call 31; ((with_reducible refine (ha _ _ (Grew.trans g0 (by (show Grew _ _; repeat (first | (with_reducible exact Grew.refl _) | (with_reducible assumption) | (with_reducible exact Grew.same_o) | (with_reducible exact Grew.app_o) | (with_reducible refine Grew.ext ?_ _ _) | (with_reducible refine Grew.alloc ?_ _) | ((with_reducible refine Grew.setCell ?_ ?_ _); rotate_left; (focus (dsimp only; first | omega | (simp only [size_ext, World.size_alloc, Array.size_append]; omega)))) | (with_reducible refine Grew.drewN ?_ _) | (with_reducible refine Grew.drew ?_))))) hu).mono ?_); rintro e w1 ⟨v, rfl, hv, hbk, o2, k2, rfl⟩; obtain ⟨vn, va, vl, vc, vE, rfl⟩ := hv.shape)))
  rw [ext_ext] at hv
  refine bodyPost_ret (by simp [results, Try.results29, go_sem, *]; rfl) rfl ?_
  exact ⟨_, rfl, hv.ext_set3 s3 (fun k hk => by have := hbk k hk; simp only [size_ext] at this; omega) _ _ _, fun k hk => by have := hbk k hk; have := g0.below.size; simp only [size_ext] at *; omega, grew_set3 g0 (by omega) _ _ _ _ _⟩
set_option maxRecDepth 100000 in
set_option maxHeartbeats 1000000 in
/-- Cmp. -/
theorem dcmp_any (V1 V2 : Value) (p q : Rat) (lo hi : Int) (w : World) (h1 : DV w V1 p lo hi) (h2 : DV w V2 q lo hi) (hlo : -100000 ≤ lo) (hhi : hi ≤ 100000) :
   Calls Try.prog 34 #[V1, V2] w (fun e w' => e = .returned (.int .i64 (sgE (p - q))) ∧ ∃ o n, w' = ext w o n) := by
  have hm : ∀ w', Grew w w' → Calls Try.prog 29 #[V1, V2] w' (fun e w2 => ∃ v, e = .returned v ∧ DV w2 v (p - q) lo (hi + 1) ∧ ∃ o n, w2 = ext w' o n) := fun w' g => by
    refine (dsub_any V1 V2 p q lo hi w' (h1.grew g) (h2.grew g) hlo hhi).mono fun e w2 hh => ?_
    obtain ⟨v, a1, a2, _, a4⟩ := hh
    exact ⟨v, a1, a2, a4⟩
  obtain ⟨r, hr⟩ : ∃ r, r = sgE (p - q) := ⟨_, rfl⟩
  have hs : ∀ V w', DV w' V (p - q) lo (hi + 1) → Calls Try.prog 126 #[V] w' (fun e w2 => e = .returned (.int .i64 r) ∧ ∃ o n, w2 = ext w' o n) := fun V w' h => by
    rw [hr]; exact dsign_any V _ _ _ w' h
  rw [← hr]
  obtain ⟨na, aa, al, ac, aE, rfl⟩ := h1.shape
  obtain ⟨nb, ba, bl, bc, bE, rfl⟩ := h2.shape
  clear h1 h2 hlo hhi hr
  go_enter Try.func34, Try.ntmps34
  refine seq_stop ?_
  go_wp2
  refine stop_go (fun W hW => ?_)
  have s1 : w.heap.size < W.heap.size := by rw [hW]; simp only [World.size_alloc]; omega
  have b1 : ∀ i, W.cell? ⟨w.heap.size, i, none⟩ = (#[.bool na, .slice aa al ac, .int .i64 aE] : Array Value)[i]? := by intro i; rw [hW]; go_simp
  have s2 : w.heap.size + 1 < W.heap.size := by rw [hW]; simp only [World.size_alloc]; omega
  have b2 : ∀ i, W.cell? ⟨w.heap.size + 1, i, none⟩ = (#[.bool nb, .slice ba bl bc, .int .i64 bE] : Array Value)[i]? := by intro i; rw [hW]; go_simp
  have g0 : Grew w W := by rw [hW]; exact ((Grew.refl _).alloc _).alloc _
  clear hW
  go_wp2_with (first | (go_at_call 29; ((with_reducible refine (hm _ (Grew.trans g0 (by (show Grew _ _; repeat (first | (with_reducible exact Grew.refl _) | (with_reducible assumption) | (with_reducible exact Grew.same_o) | (with_reducible exact Grew.app_o) | (with_reducible refine Grew.ext ?_ _ _) | (with_reducible refine Grew.alloc ?_ _) | ((with_reducible refine Grew.setCell ?_ ?_ _); rotate_left; (focus (dsimp only; first | omega | (simp only [size_ext, World.size_alloc, Array.size_append]; omega)))) | (with_reducible refine Grew.drewN ?_ _) | (with_reducible refine Grew.drew ?_)))))).mono ?_); rintro e w1 ⟨u, rfl, hu, o1, k1, rfl⟩; obtain ⟨un, ua, ul, uc, uE, rfl⟩ := hu.shape)) | (go_at_call 126; ((with_reducible refine (hs _ _ hu).mono ?_); rintro e w1 ⟨rfl, o2, k2, rfl⟩)))
  go_ret
  exact ⟨rfl, Grew.trans g0 (by (show Grew _ _; repeat (first | (with_reducible exact Grew.refl _) | (with_reducible assumption) | (with_reducible exact Grew.same_o) | (with_reducible exact Grew.app_o) | (with_reducible refine Grew.ext ?_ _ _) | (with_reducible refine Grew.alloc ?_ _) | ((with_reducible refine Grew.setCell ?_ ?_ _); rotate_left; (focus (dsimp only; first | omega | (simp only [size_ext, World.size_alloc, Array.size_append]; omega)))) | (with_reducible refine Grew.drewN ?_ _) | (with_reducible refine Grew.drew ?_))))⟩
end Go.Proofs.Ytcmggfpcbijcjaa
end
section
/-
  Contracts: the reference's digits (layer 2): Of, Int.
-/
set_option linter.unusedSimpArgs false
set_option linter.unusedVariables false
open Go Go.RowKit Sedge
namespace Go.Proofs.Ytcmggfpcbijcjaa
theorem _root_.Sedge.IsF.val {b x : Nat} (h : IsF b x) : val b = val x := by
  cases hn : isNan b
  · rw [← h.2, canon_not hn]
  · have h1 : isNan x = true := by rw [← h.nan]; exact hn
    unfold isNan at hn h1
    obtain ⟨s, t, e1⟩ := isNaN_eq _ hn
    obtain ⟨s', t', e2⟩ := isNaN_eq _ h1
    unfold Sedge.val
    rw [e1, e2]
theorem val_all {b : Nat} (hb : b < 2 ^ 64) : dat (pNeg b) (pMag b) (pExp b) = val b ∧ pMag b < 2 ^ 64 ∧ -1074 ≤ pExp b ∧ pExp b ≤ 971 := by
  have h53 := pMag_lt b
  by_cases hk : pKind b = 0
  · have := pExp_ge b hk
    exact ⟨(val_parts hb hk).symm, by omega, this⟩
  · have hm : pMag b = 0 := by
      unfold pKind at hk
      unfold pMag
      split at hk
      · rename_i h; rw [if_pos h]
      · exact absurd rfl hk
    have he : pExp b = 0 := by
      unfold pKind at hk
      unfold pExp
      split at hk
      · rename_i h; rw [if_pos h]
      · exact absurd rfl hk
    refine ⟨?_, by omega, by omega, by omega⟩
    rw [hm, dat_zero]
    unfold Sedge.val
    rw [read_eq b hb, if_neg hk]
    split <;> rename_i h <;> first | rfl | (split at h <;> cases h)
set_option maxRecDepth 100000 in
set_option maxHeartbeats 2000000 in
/-- Of. -/
theorem of_any (b x : Nat) (w : World) (hb : IsF b x) :
   Calls Try.prog 27 #[.float .f64 b] w (fun e w' => ∃ v, e = .returned v ∧ DV w' v (val x) (-70) 70 ∧ (∀ k, dBlock v = some k → w.heap.size ≤ k) ∧ ∃ o n, w' = ext w o n) := by
  obtain ⟨h1, h2, h3, h4⟩ := val_all hb.1
  rw [hb.val] at h1
  obtain ⟨q0, hq0⟩ : ∃ q0, Hid (q0 = val x) := ⟨_, hid rfl⟩
  rw [← hq0.out] at h1 ⊢
  have hp : ∀ w', Calls Try.prog 116 #[.float .f64 b] w' (fun e w2 => e = .returned (.tuple #[.bool (pNeg b), .int .u64 (pMag b), .int .i64 (pExp b), .int .i64 (pKind b)]) ∧ w' = w2) := fun w' => parts_any b w' hb.1
  have hwh : ∀ w', Calls Try.prog 119 #[.bool (pNeg b), .int .u64 (pMag b)] w' (fun e w2 => ∃ v, e = .returned v ∧ DV w2 v (dat (pNeg b) (pMag b) 0) 0 4 ∧ (∀ k, dBlock v = some k → w'.heap.size ≤ k) ∧ ∃ o n, w2 = ext w' o n) := fun w' => whole_any (pNeg b) (pMag b) w' h2
  generalize pNeg b = N at *
  generalize pMag b = M at *
  generalize pExp b = E at *
  generalize pKind b = K at *
  have hsh : ∀ V w', DV w' V (dat N M 0) 0 4 → Calls Try.prog 32 #[V, .int .i64 E] w' (fun e w2 => ∃ v, e = .returned v ∧ DV w2 v q0 (-70) 70 ∧ (∀ b, dBlock v = some b → w'.heap.size ≤ b) ∧ ∃ o n, w2 = ext w' o n) := fun V w' hv => by
    refine (dshift_any V _ 0 4 E w' hv (by omega) (by omega) (by omega)).mono fun e w2 hh => ?_
    obtain ⟨v, a1, a2, a3, a4⟩ := hh
    refine ⟨v, a1, ?_, a3, a4⟩
    have e1 : dat N M 0 * p2 E = q0 := by
      rw [← h1]; unfold dat; rw [p2_zero]; grind
    rw [e1] at a2
    exact a2.mono (by omega) (by omega)
  clear h1 h2 h3 h4 hq0 hb
  go_enter Try.func27, Try.ntmps27
  refine seq_stop ?_
  go_wp2
  refine stop_go (fun W hW => ?_)
  have s1 : w.heap.size < W.heap.size := by rw [hW]; simp only [World.size_alloc]; omega
  have b1 : ∀ i, W.cell? ⟨w.heap.size, i, none⟩ = (#[.bool false, .slice none 0 0, .int .i64 0] : Array Value)[i]? := by intro i; rw [hW]; go_simp
  have f1 : ∀ i, W.frozen? ⟨w.heap.size, i, none⟩ = false := by intro i; rw [hW]; go_simp
  have g0 : Grew w W := by rw [hW]; exact (Grew.refl _).alloc _
  clear hW
  go_wp2_with (first | (go_at_call 116; ((with_reducible refine (hp _).mono ?_); rintro e w1 ⟨rfl, rfl⟩)) | (go_at_call 119; ((with_reducible refine (hwh _).mono ?_); rintro e w1 ⟨v, rfl, hv, hbk, o2, n2, rfl⟩; obtain ⟨vn, va, vl, vc, vE, rfl⟩ := hv.shape)) | (go_at_call 32; ((with_reducible refine (hsh _ _ hv).mono ?_); rintro e w1 ⟨u, rfl, hu, hbu, o3, n3, rfl⟩; obtain ⟨un, ua, ul, uc, uE, rfl⟩ := hu.shape)))
  rw [ext_ext] at hu
  refine bodyPost_ret (by simp [results, Try.results27, go_sem, *]; rfl) rfl ?_
  exact ⟨_, rfl, hu.ext_set3 s1 (fun k hk => by have := hbu k hk; simp only [size_ext] at this; omega) _ _ _, fun k hk => by have := hbu k hk; simp only [size_ext] at this; omega, grew_set3 g0 (Nat.le_refl _) _ _ _ _ _⟩
set_option maxRecDepth 100000 in
set_option maxHeartbeats 1000000 in
/-- Int, of what is not below 0. -/
theorem dint_any (n : Nat) (w : World) (hn : n ≤ 1000000000) :
   Calls Try.prog 33 #[.int .i64 n] w (fun e w' => ∃ v, e = .returned v ∧ DV w' v (n : Rat) 0 4 ∧ (∀ k, dBlock v = some k → w.heap.size ≤ k) ∧ ∃ o n, w' = ext w o n) := by
  have hwh : ∀ w', Calls Try.prog 119 #[.bool false, .int .u64 n] w' (fun e w2 => ∃ v, e = .returned v ∧ DV w2 v (n : Rat) 0 4 ∧ (∀ k, dBlock v = some k → w'.heap.size ≤ k) ∧ ∃ o n, w2 = ext w' o n) := fun w' => by
    have := whole_any false n w' (by omega)
    rw [show dat false n 0 = (n : Rat) by unfold dat sgn; rw [p2_zero]; simp] at this
    exact this
  have a1 : IntKind.u64.wrap (n : Int) = n := IntWalk.u64_in _ (by omega)
  have d1 : decide ((n : Int) < 0) = false := by simp
  go_enter Try.func33, Try.ntmps33
  refine seq_stop ?_
  go_wp2
  refine stop_go (fun W hW => ?_)
  have s1 : w.heap.size < W.heap.size := by rw [hW]; simp only [World.size_alloc]; omega
  have b1 : ∀ i, W.cell? ⟨w.heap.size, i, none⟩ = (#[.bool false, .slice none 0 0, .int .i64 0] : Array Value)[i]? := by intro i; rw [hW]; go_simp
  have f1 : ∀ i, W.frozen? ⟨w.heap.size, i, none⟩ = false := by intro i; rw [hW]; go_simp
  have g0 : Grew w W := by rw [hW]; exact (Grew.refl _).alloc _
  clear hW
  go_wp2_with (first | (go_at_call 119; ((with_reducible refine (hwh _).mono ?_); rintro e w1 ⟨u, rfl, hu, hbu, o3, n3, rfl⟩; obtain ⟨un, ua, ul, uc, uE, rfl⟩ := hu.shape)))
  refine bodyPost_ret (by simp [results, Try.results33, go_sem, *]; rfl) rfl ?_
  exact ⟨_, rfl, hu.ext_set3 s1 (fun k hk => by have := hbu k hk; omega) _ _ _, fun k hk => by have := hbu k hk; omega, grew_set3 g0 (Nat.le_refl _) _ _ _ _ _⟩
end Go.Proofs.Ytcmggfpcbijcjaa
end
section
/-
  Contract: straightedgeref15.Exact.
-/
set_option linter.unusedSimpArgs false
set_option linter.unusedVariables false
open Go Go.RowKit Sedge
namespace Go.Proofs.Ytcmggfpcbijcjaa
theorem sgE_zero (q : Rat) : (sgE q != 0) = !(decide (q = 0)) := by
  by_cases h : q = 0
  · subst h; decide +kernel
  · rw [decide_eq_false h]
    unfold sgE
    split
    · rename_i h1; exact absurd h1 h
    · split <;> rfl
theorem rat_sub0 {a b : Rat} (h : a - b = 0) : a = b := by
  have e : a = (a - b) + b := by grind
  rw [e, h, Rat.zero_add]
/-- What the reference asks. -/
def exR (rs cs : List Int) (M : Nat → Nat → Nat) (i j : Nat) : Bool := decide (val (shF rs cs i j (M i j)) * p2 (-(rs.getD i 0) - cs.getD j 0) = val (M i j))
set_option maxRecDepth 100000 in
set_option maxHeartbeats 4000000 in
/-- straightedgeref15.Exact. -/
theorem rexact_any (R C : Nat) (T : List Nat) (rs cs : List Int) (M : Nat → Nat → Nat) (A X Y : Value) (w : World) (hA : FS w A T) (hX : IS .i64 w X rs) (hY : IS .i64 w Y cs) (hx : rs.length = R) (hy : cs.length = C) (hT : T.length = R * C) (hM : Hold (fun i j => i * C + j) R C T T M) (hR : R ≤ 1000) (hC : C ≤ 1000)
    (br : ∀ k, k < R → -10000 ≤ rs.getD k 0 ∧ rs.getD k 0 ≤ 10000) (bc : ∀ k, k < C → -10000 ≤ cs.getD k 0 ∧ cs.getD k 0 ≤ 10000) :
   Calls Try.prog 113 #[.agg #[.int .i64 R, .int .i64 C, A], X, Y] w (fun e w' => ∃ T', T'.length = R * C ∧ (∀ i j, i < R → j < C → T'.getD (i * C + j) 0 = shF rs cs i j (M i j)) ∧ e = .returned (.bool (finL T && finL T' && exAll R C (exR rs cs M))) ∧ ∃ o n, w' = ext w o n) := by
  have hRC : R * C ≤ 1000 * 1000 := Nat.mul_le_mul hR hC
  have hsh : ∀ w', FS w' A T → IS .i64 w' X rs → IS .i64 w' Y cs → Calls Try.prog 112 #[.agg #[.int .i64 R, .int .i64 C, A], X, Y] w' (fun e w2 => ∃ v t, e = .returned (.agg #[.int .i64 R, .int .i64 C, v]) ∧ FS w2 v t ∧ t.length = R * C ∧ (∀ i j, i < R → j < C → t.getD (i * C + j) 0 = shF rs cs i j (M i j)) ∧ ∃ o n, w2 = ext w' o n) := fun w' a b c => by
    refine (rshift_any R C T rs cs M A X Y w' a b c hx hy hT hM hR hC).mono fun e w2 hh => ?_
    obtain ⟨v, t, rfl, q1, q2, q3⟩ := hh
    exact ⟨v, t, rfl, q1.fs, by rw [q2.len]; exact hT, q2.get, q3⟩
  have hfA : ∀ w', FS w' A T → Calls Try.prog 25 #[A] w' (fun e w2 => e = .returned (.bool (finL T)) ∧ w' = w2) := fun w' h => finite_any A T w' h
  have hAt : ∀ (i j : Nat) w', i < R → j < C → FS w' A T → Calls Try.prog 72 #[.agg #[.int .i64 R, .int .i64 C, A], .int .i64 i, .int .i64 j] w' (fun e w2 => ∃ b, e = .returned (.float .f64 b) ∧ IsF b (M i j) ∧ ∃ o n, w2 = ext w' o n) := fun i j w' hi hj h => by
    have := rat_any R C i j A T w' h hR hC (by omega) (by omega) (by rw [hT]; exact at_lt hi hj)
    rw [hM.get i j hi hj] at this; exact this
  obtain ⟨aA, cA, rfl⟩ := hA.shape
  obtain ⟨aX, cX, rfl⟩ := hX.shape
  obtain ⟨aY, cY, rfl⟩ := hY.shape
  have HX := hid hX
  have HY := hid hY
  have Hx := hid hx
  have Hy := hid hy
  have HBR := hid br
  have HBC := hid bc
  clear hT hM hX hY hx hy br bc
  go_enter Try.func113, Try.ntmps113
  refine seq_stop ?_
  go_wp2
  refine stop_go (fun W hW => ?_)
  have s1 : w.heap.size < W.heap.size := by rw [hW]; simp only [World.size_alloc]; omega
  have b1 : ∀ i, W.cell? ⟨w.heap.size, i, none⟩ = (#[.int .i64 R, .int .i64 C, .slice aA T.length cA] : Array Value)[i]? := by intro i; rw [hW]; go_simp
  have X1 : Box W (w.heap.size) #[.int .i64 R, .int .i64 C, .slice aA T.length cA] := by rw [hW]; exact Box.new' (by first | rfl | (simp only [World.size_alloc]; done) | (simp only [World.size_alloc]; omega))
  have f1 : ∀ i, W.frozen? ⟨w.heap.size, i, none⟩ = false := by intro i; rw [hW]; go_simp
  have g0 : Grew w W := by rw [hW]; exact (Grew.refl _).alloc _
  clear hW
  obtain ⟨p3, hp3⟩ : ∃ p, p = w.heap.size := ⟨_, rfl⟩
  have Y3 : Box W p3 #[.int .i64 R, .int .i64 C, .slice aA T.length cA] := by rw [hp3]; exact X1
  have hAW := hA.grew g0
  have hXW := HX.out.grew g0
  have hYW := HY.out.grew g0
  have t3 := Y3.cell
  have l3 := Y3.lt
  simp only [← hp3]
  clear X1 b1 s1 f1 hp3
  go_upto_region 2 with (first | (go_at_call 112; ((with_reducible refine (hsh _ (hAW.grew (by (show Grew _ _; (try simp only [← Array.append_assoc]); repeat (first | (with_reducible exact Grew.same_o) | (with_reducible exact Grew.refl _) | (with_reducible assumption) | (with_reducible refine Grew.alloc ?_ _) | (with_reducible refine Grew.app_r ?_) | ((with_reducible refine Grew.setCell ?_ ?_ _); rotate_left; (focus (dsimp only; first | omega | (simp only [size_ext, World.size_alloc, Array.size_append]; omega)))) | (with_reducible refine Grew.ext ?_ _ _) | (with_reducible refine Grew.drewN ?_ _) | (with_reducible refine Grew.drew ?_))))) (hXW.grew (by (show Grew _ _; (try simp only [← Array.append_assoc]); repeat (first | (with_reducible exact Grew.same_o) | (with_reducible exact Grew.refl _) | (with_reducible assumption) | (with_reducible refine Grew.alloc ?_ _) | (with_reducible refine Grew.app_r ?_) | ((with_reducible refine Grew.setCell ?_ ?_ _); rotate_left; (focus (dsimp only; first | omega | (simp only [size_ext, World.size_alloc, Array.size_append]; omega)))) | (with_reducible refine Grew.ext ?_ _ _) | (with_reducible refine Grew.drewN ?_ _) | (with_reducible refine Grew.drew ?_))))) (hYW.grew (by (show Grew _ _; (try simp only [← Array.append_assoc]); repeat (first | (with_reducible exact Grew.same_o) | (with_reducible exact Grew.refl _) | (with_reducible assumption) | (with_reducible refine Grew.alloc ?_ _) | (with_reducible refine Grew.app_r ?_) | ((with_reducible refine Grew.setCell ?_ ?_ _); rotate_left; (focus (dsimp only; first | omega | (simp only [size_ext, World.size_alloc, Array.size_append]; omega)))) | (with_reducible refine Grew.ext ?_ _ _) | (with_reducible refine Grew.drewN ?_ _) | (with_reducible refine Grew.drew ?_)))))).mono ?_); rintro e w1 ⟨v, T', rfl, hv, lT, hT', o1, n1, rfl⟩; (obtain ⟨va, vc, rfl⟩ := hv.shape); (replace lT := hid lT); (replace hT' := hid hT'))))
  refine name_any (fun V hV => ?_)
  obtain ⟨p7, hp7⟩ : ∃ p, p = W.heap.size + o1.size := ⟨_, rfl⟩
  have gV : Grew W V := by rw [← hV]; (show Grew _ _; (try simp only [← Array.append_assoc]); repeat (first | (with_reducible exact Grew.same_o) | (with_reducible exact Grew.refl _) | (with_reducible assumption) | (with_reducible refine Grew.alloc ?_ _) | (with_reducible refine Grew.app_r ?_) | ((with_reducible refine Grew.setCell ?_ ?_ _); rotate_left; (focus (dsimp only; first | omega | (simp only [size_ext, World.size_alloc, Array.size_append]; omega)))) | (with_reducible refine Grew.ext ?_ _ _) | (with_reducible refine Grew.drewN ?_ _) | (with_reducible refine Grew.drew ?_)))
  have gw := Grew.trans g0 gV
  have Z3 := Y3.grew gV
  have Z7 : Box V p7 #[.int .i64 R, .int .i64 C, .slice va T'.length vc] := by rw [← hV]; exact Box.new' (by rw [hp7]; simp only [size_ext])
  have hvV : FS V (.slice va T'.length vc) T' := by rw [← hV]; exact hv.grew (by (show Grew _ _; (try simp only [← Array.append_assoc]); repeat (first | (with_reducible exact Grew.same_o) | (with_reducible exact Grew.refl _) | (with_reducible assumption) | (with_reducible refine Grew.alloc ?_ _) | (with_reducible refine Grew.app_r ?_) | ((with_reducible refine Grew.setCell ?_ ?_ _); rotate_left; (focus (dsimp only; first | omega | (simp only [size_ext, World.size_alloc, Array.size_append]; omega)))) | (with_reducible refine Grew.ext ?_ _ _) | (with_reducible refine Grew.drewN ?_ _) | (with_reducible refine Grew.drew ?_))))
  have hAV := hA.grew gw
  have t3 := Z3.cell
  have l3 := Z3.lt
  have t7 := Z7.cell
  have l7 := Z7.lt
  simp only [← hp7]
  have hf7 : Calls Try.prog 25 #[.slice va T'.length vc] V (fun e w2 => e = .returned (.bool (finL T')) ∧ V = w2) := finite_any _ T' V hvV
  have hf3 := hfA V hAV
  have hpost : ∀ b w', b = (finL T && finL T' && exAll R C (exR rs cs M)) → Grew w w' → ∃ T', T'.length = R * C ∧ (∀ i j, i < R → j < C → T'.getD (i * C + j) 0 = shF rs cs i j (M i j)) ∧ (Ending.returned (.bool b)) = .returned (.bool (finL T && finL T' && exAll R C (exR rs cs M))) ∧ ∃ o n, w' = ext w o n := fun b w' h1 h2 => ⟨T', lT.out, hT'.out, by rw [h1], h2⟩
  have HP := hid hpost
  clear hV hp7 hv hsh hfA hpost
  cases h1 : finL T
  · rw [h1] at hf3
    go_wp2_with (first | (go_at_call 25; ((with_reducible refine hf3.mono ?_); rintro e w1 ⟨rfl, rfl⟩)))
    go_ret
    exact HP.out _ _ (by rw [h1]; rfl) gw
  · rw [h1] at hf3
    cases h2 : finL T'
    · rw [h2] at hf7
      go_wp2_with (first | (go_at_call 25; ((with_reducible refine hf3.mono ?_); rintro e w1 ⟨rfl, rfl⟩)) | (go_at_call 25; ((with_reducible refine hf7.mono ?_); rintro e w1 ⟨rfl, rfl⟩)))
      go_ret
      exact HP.out _ _ (by rw [h1, h2]; rfl) gw
    · rw [h2] at hf7
      have hAt7 : ∀ (i j : Nat) w', i < R → j < C → Grew V w' → Calls Try.prog 72 #[.agg #[.int .i64 R, .int .i64 C, .slice va T'.length vc], .int .i64 i, .int .i64 j] w' (fun e w2 => ∃ b, e = .returned (.float .f64 b) ∧ IsF b (shF rs cs i j (M i j)) ∧ ∃ o n, w2 = ext w' o n) := fun i j w' hi hj g => by
        have := rat_any R C i j _ T' w' (hvV.grew g) hR hC (by omega) (by omega) (by rw [lT.out]; exact at_lt hi hj)
        rw [hT'.out i j hi hj] at this; exact this
      have hpost2 : ∀ b w', b = exAll R C (exR rs cs M) → Grew w w' → ∃ T', T'.length = R * C ∧ (∀ i j, i < R → j < C → T'.getD (i * C + j) 0 = shF rs cs i j (M i j)) ∧ (Ending.returned (.bool b)) = .returned (.bool (finL T && finL T' && exAll R C (exR rs cs M))) ∧ ∃ o n, w' = ext w o n := fun b w' e1 e2 => ⟨T', lT.out, hT'.out, by rw [e1, h1, h2]; rfl, e2⟩
      have HP2 := hid hpost2
      clear HP hpost2 h1 h2 hT'
      have hXV := hXW.grew gV
      have hYV := hYW.grew gV
      have hA3 : ∀ (i j : Nat) w', i < R → j < C → Grew V w' → Calls Try.prog 72 #[.agg #[.int .i64 R, .int .i64 C, .slice aA T.length cA], .int .i64 i, .int .i64 j] w' (fun e w2 => ∃ b, e = .returned (.float .f64 b) ∧ IsF b (M i j) ∧ ∃ o n, w2 = ext w' o n) := fun i j w' hi hj g => hAt i j w' hi hj (hAV.grew g)
      have HA3 := hid hA3
      have HA7 := hid hAt7
      clear hA3 hAt7 hAt hvV
      go_wp2_with (first | (go_at_call 25; ((with_reducible refine hf3.mono ?_); rintro e w1 ⟨rfl, rfl⟩)) | (go_at_call 25; ((with_reducible refine hf7.mono ?_); rintro e w1 ⟨rfl, rfl⟩)))
      clear hf3 hf7
      go_loopw [6, 8] (fun s c wr => ∃ (i : Nat), i ≤ R ∧ s = .bool false ∧ c = .int .i64 i ∧ Grew V wr ∧ Hid (∀ a b, a < i → b < C → exR rs cs M a b = true)) (fun _ c _ => R - (intOf c).toNat)
      case atStart => exact ⟨0, Nat.zero_le _, rfl, rfl, Grew.refl _, hid fun a b h => absurd h (Nat.not_lt_zero _)⟩
      case round =>
        obtain ⟨i, hi, rfl, rfl, gr, hT1⟩ := hrel
        have t3 := (Z3.grew gr).cell
        have l3 := (Z3.grew gr).lt
        by_cases hiR : i < R
        · go_wp2
          go_loopw [6, 9] (fun s c wr => ∃ (j : Nat), j ≤ C ∧ s = .bool false ∧ c = .int .i64 j ∧ Grew V wr ∧ Hid (∀ b, b < j → exR rs cs M i b = true)) (fun _ c _ => C - (intOf c).toNat)
          case atStart => exact ⟨0, Nat.zero_le _, rfl, rfl, gr, hid fun b h => absurd h (Nat.not_lt_zero _)⟩
          case round =>
            obtain ⟨j, hj, rfl, rfl, gx, hT2⟩ := hrel
            have t3 := (Z3.grew gx).cell
            have l3 := (Z3.grew gx).lt
            have t7 := (Z7.grew gx).cell
            have l7 := (Z7.grew gx).lt
            by_cases hjC : j < C
            · have hat7 := fun w' g => HA7.out i j w' hiR hjC (Grew.trans gx g)
              have hat3 := fun w' g => HA3.out i j w' hiR hjC (Grew.trans gx g)
              have bR := HBR.out i hiR
              have bC := HBC.out j hjC
              obtain ⟨bx, ox, hax, hkx, hcx⟩ := hXV.at.2 (by rw [Hx.out]; omega)
              have hrx := hcx i (by rw [Hx.out]; omega)
              obtain ⟨bz, oz, haz, hkz, hcz⟩ := hYV.at.2 (by rw [Hy.out]; omega)
              have hry := hcz j (by rw [Hy.out]; omega)
              subst hax haz
              have hex : exR rs cs M i j = decide (val (shF rs cs i j (M i j)) * p2 (-(rs.getD i 0) - cs.getD j 0) = val (M i j)) := rfl
              obtain ⟨rx, hrr⟩ : ∃ r, r = rs.getD i 0 := ⟨_, rfl⟩
              obtain ⟨ry, hcc⟩ : ∃ c, c = cs.getD j 0 := ⟨_, rfl⟩
              rw [← hrr] at hrx bR hex
              rw [← hcc] at hry bC hex
              have lx1 : i < rs.length := by rw [Hx.out]; omega
              have ly1 : j < cs.length := by rw [Hy.out]; omega
              have crx := (gx.cell hkx).trans hrx
              have cry := (gx.cell hkz).trans hry
              have kx := Nat.lt_of_lt_of_le hkx gx.below.size
              have kz := Nat.lt_of_lt_of_le hkz gx.below.size
              have rw1 : IntKind.i64.wrap (-rx) = -rx := IntWalk.i64_in _ (by omega)
              have rw2 : IntKind.i64.wrap (-rx - ry) = -rx - ry := IntWalk.i64_in _ (by omega)
              obtain ⟨F, hF⟩ : ∃ F, F = shF rs cs i j (M i j) := ⟨_, rfl⟩
              obtain ⟨G, hG⟩ : ∃ G, G = M i j := ⟨_, rfl⟩
              rw [← hF] at hex hat7
              rw [← hG] at hex hat3
              have hsh2 : ∀ v w', DV w' v (val F) (-70) 70 → Calls Try.prog 32 #[v, .int .i64 (-rx - ry)] w' (fun e w2 => ∃ v2, e = .returned v2 ∧ DV w2 v2 (val F * p2 (-rx - ry)) (-1400) 1400 ∧ ∃ o n, w2 = ext w' o n) := fun v w' h => by
                refine (dshift_any v _ (-70) 70 (-rx - ry) w' h (by decide) (by decide) (by omega)).mono fun e w2 hh => ?_
                obtain ⟨v2, q1, q2, q3, q4⟩ := hh
                exact ⟨v2, q1, q2.mono (by omega) (by omega), q4⟩
              obtain ⟨SG, hSG⟩ : ∃ s, s = sgE (val F * p2 (-rx - ry) - val G) := ⟨_, rfl⟩
              have hcm : ∀ v1 v2 w', DV w' v1 (val F * p2 (-rx - ry)) (-1400) 1400 → DV w' v2 (val G) (-70) 70 → Calls Try.prog 34 #[v1, v2] w' (fun e w2 => e = .returned (.int .i64 SG) ∧ ∃ o n, w2 = ext w' o n) := fun v1 v2 w' h1 h2 => by
                rw [hSG]
                exact dcmp_any v1 v2 _ _ (-1400) 1400 w' h1 (h2.mono (by decide) (by decide)) (by decide) (by decide)
              have hsg : (SG != 0) = !(exR rs cs M i j) := by
                rw [hSG, sgE_zero, hex]
                congr 1
                by_cases hq : val F * p2 (-rx - ry) = val G
                · rw [decide_eq_true hq, decide_eq_true (by rw [hq, Rat.sub_self])]
                · rw [decide_eq_false hq, decide_eq_false fun h => hq (rat_sub0 h)]
              obtain ⟨QF, hQF⟩ : ∃ q, q = val F := ⟨_, rfl⟩
              obtain ⟨QS, hQS⟩ : ∃ q, q = val F * p2 (-rx - ry) := ⟨_, rfl⟩
              obtain ⟨QG, hQG⟩ : ∃ q, q = val G := ⟨_, rfl⟩
              have hof : ∀ b w', IsF b F → Calls Try.prog 27 #[.float .f64 b] w' (fun e w2 => ∃ v, e = .returned v ∧ DV w2 v QF (-70) 70 ∧ ∃ o n, w2 = ext w' o n) := fun b w' h => by
                rw [hQF]
                refine (of_any b F w' h).mono fun e w2 hh => ?_
                obtain ⟨v2, q1, q2, q3, q4⟩ := hh
                exact ⟨v2, q1, q2, q4⟩
              have hog : ∀ b w', IsF b G → Calls Try.prog 27 #[.float .f64 b] w' (fun e w2 => ∃ v, e = .returned v ∧ DV w2 v QG (-70) 70 ∧ ∃ o n, w2 = ext w' o n) := fun b w' h => by
                rw [hQG]
                refine (of_any b G w' h).mono fun e w2 hh => ?_
                obtain ⟨v2, q1, q2, q3, q4⟩ := hh
                exact ⟨v2, q1, q2, q4⟩
              rw [← hQS, ← hQF] at hsh2
              rw [← hQS, ← hQG] at hcm
              clear hcx hcz hrx hry hrr hcc hex hSG hQF hQS hQG
              cases hE : exR rs cs M i j
              · rw [hE] at hsg
                have hs2 : (SG != 0) = true := hsg
                clear hsg
                go_wp2
                refine wp_region_R (Grew wr) [] [(0,0), (0,1), (0,2), (0,5), (0,6), (0,7), (0,8), (0,9), (0,10), (0,11), (0,12), (0,13), (0,14), (0,16), (0,17), (0,18), (1,3), (1,4), (1,15), (1,19), (1,20), (1,21), (0,22)] (by kernel_rfl) (by kernel_rfl) (fun _ _ _ _ h _ => h) (by first | exact ⟨_, _, ext_drew⟩ | exact ⟨_, _, drew_ext0⟩ | (show Grew _ _; repeat (first | (with_reducible exact Grew.refl _) | (with_reducible assumption) | (with_reducible exact Grew.same_o) | (with_reducible exact Grew.app_o) | (with_reducible refine Grew.ext ?_ _ _) | (with_reducible refine Grew.alloc ?_ _) | ((with_reducible refine Grew.setCell ?_ ?_ _); rotate_left; (focus (dsimp only; first | omega | (simp only [size_ext, World.size_alloc, Array.size_append]; omega)))) | (with_reducible refine Grew.drewN ?_ _) | (with_reducible refine Grew.drew ?_)))) ?_
                go_wp2_with (first | ((with_reducible refine wpR_id ?_); first | (refine wpR_take (v := ?_) rfl rfl ?_ ?_; rotate_left; (focus (rintro w' ⟨o', n', rfl⟩; go_simp; try with_reducible rfl)); simp only [Act.put, List.setIfInBounds_toArray, List.set_cons_zero, List.set_cons_succ]) | (refine wpR_pure (v := ?_) rfl rfl ?_ ?_; rotate_left; (focus (intro w'; go_simp; try with_reducible rfl)); simp only [Act.put, List.setIfInBounds_toArray, List.set_cons_zero, List.set_cons_succ]) | (refine wpR_takeG (v := ?_) rfl rfl rfl rfl rfl ?_ ?_; rotate_left; (focus (rintro w' ⟨o', n', rfl⟩; go_simp; try with_reducible rfl)); simp only [Act.put, List.setIfInBounds_toArray, List.set_cons_zero, List.set_cons_succ]) | (refine wpR_skip rfl rfl rfl rfl rfl rfl ?_; simp only [Act.put, List.setIfInBounds_toArray, List.set_cons_zero, List.set_cons_succ]) | (refine wpR_skipU rfl rfl rfl rfl rfl ?_; simp only [Act.put, List.setIfInBounds_toArray, List.set_cons_zero, List.set_cons_succ]) | (refine wpR_do rfl rfl (fun K hK => ?_)) | (refine wpR_doG rfl rfl rfl rfl rfl (fun K hK => ?_)) | (refine wpR_last rfl rfl (fun K hK => ?_)) | (refine wpR_nil ?_)) | ((with_reducible refine wpR_go ?_ ?_); (focus (show Grew _ _; repeat (first | (with_reducible exact Grew.refl _) | (with_reducible assumption) | (with_reducible exact Grew.same_o) | (with_reducible exact Grew.app_o) | (with_reducible refine Grew.ext ?_ _ _) | (with_reducible refine Grew.alloc ?_ _) | ((with_reducible refine Grew.setCell ?_ ?_ _); rotate_left; (focus (dsimp only; first | omega | (simp only [size_ext, World.size_alloc, Array.size_append]; omega)))) | (with_reducible refine Grew.drewN ?_ _) | (with_reducible refine Grew.drew ?_))))) | ((with_reducible refine upon_id ?_); refine upon_fop rfl (by assumption) (by assumption) ?_; intro rr nn hr) | (go_at_call 72; ((with_reducible refine (hat7 _ (by (show Grew _ _; (try simp only [← Array.append_assoc]); repeat (first | (with_reducible exact Grew.same_o) | (with_reducible exact Grew.refl _) | (with_reducible assumption) | (with_reducible refine Grew.alloc ?_ _) | (with_reducible refine Grew.app_r ?_) | ((with_reducible refine Grew.setCell ?_ ?_ _); rotate_left; (focus (dsimp only; first | omega | (simp only [size_ext, World.size_alloc, Array.size_append]; omega)))) | (with_reducible refine Grew.ext ?_ _ _) | (with_reducible refine Grew.drewN ?_ _) | (with_reducible refine Grew.drew ?_))))).mono ?_); rintro e w1 ⟨b7, rfl, h7, o4, n4, rfl⟩)) | (go_at_call 72; ((with_reducible refine (hat3 _ (by (show Grew _ _; (try simp only [← Array.append_assoc]); repeat (first | (with_reducible exact Grew.same_o) | (with_reducible exact Grew.refl _) | (with_reducible assumption) | (with_reducible refine Grew.alloc ?_ _) | (with_reducible refine Grew.app_r ?_) | ((with_reducible refine Grew.setCell ?_ ?_ _); rotate_left; (focus (dsimp only; first | omega | (simp only [size_ext, World.size_alloc, Array.size_append]; omega)))) | (with_reducible refine Grew.ext ?_ _ _) | (with_reducible refine Grew.drewN ?_ _) | (with_reducible refine Grew.drew ?_))))).mono ?_); rintro e w1 ⟨b3, rfl, h3, o5, n5, rfl⟩)) | (go_at_call 27; ((with_reducible refine (hof b7 _ h7).mono ?_); rintro e w1 ⟨va7, rfl, hva, oa, na, rfl⟩; (obtain ⟨x1, x2, x3, x4, x5, rfl⟩ := hva.shape); (try simp only [drew_ext, drewN_ext, ext_ext] at hva))) | (go_at_call 27; ((with_reducible refine (hog b3 _ h3).mono ?_); rintro e w1 ⟨vb, rfl, hvb, ob, nb, rfl⟩; (obtain ⟨y1, y2, y3, y4, y5, rfl⟩ := hvb.shape); (try simp only [drew_ext, drewN_ext, ext_ext] at hvb))) | (go_at_call 32; ((with_reducible refine (hsh2 _ _ (hva.grew (by (show Grew _ _; (try simp only [← Array.append_assoc]); repeat (first | (with_reducible exact Grew.same_o) | (with_reducible exact Grew.refl _) | (with_reducible assumption) | (with_reducible refine Grew.alloc ?_ _) | (with_reducible refine Grew.app_r ?_) | ((with_reducible refine Grew.setCell ?_ ?_ _); rotate_left; (focus (dsimp only; first | omega | (simp only [size_ext, World.size_alloc, Array.size_append]; omega)))) | (with_reducible refine Grew.ext ?_ _ _) | (with_reducible refine Grew.drewN ?_ _) | (with_reducible refine Grew.drew ?_)))))).mono ?_); rintro e w1 ⟨vs, rfl, hvs, os, ns, rfl⟩; (obtain ⟨z1, z2, z3, z4, z5, rfl⟩ := hvs.shape); (try simp only [drew_ext, drewN_ext, ext_ext] at hvs))) | (go_at_call 34; ((with_reducible refine (hcm _ _ _ (hvs.grew (by (show Grew _ _; (try simp only [← Array.append_assoc]); repeat (first | (with_reducible exact Grew.same_o) | (with_reducible exact Grew.refl _) | (with_reducible assumption) | (with_reducible refine Grew.alloc ?_ _) | (with_reducible refine Grew.app_r ?_) | ((with_reducible refine Grew.setCell ?_ ?_ _); rotate_left; (focus (dsimp only; first | omega | (simp only [size_ext, World.size_alloc, Array.size_append]; omega)))) | (with_reducible refine Grew.ext ?_ _ _) | (with_reducible refine Grew.drewN ?_ _) | (with_reducible refine Grew.drew ?_))))) (hvb.grew (by (show Grew _ _; (try simp only [← Array.append_assoc]); repeat (first | (with_reducible exact Grew.same_o) | (with_reducible exact Grew.refl _) | (with_reducible assumption) | (with_reducible refine Grew.alloc ?_ _) | (with_reducible refine Grew.app_r ?_) | ((with_reducible refine Grew.setCell ?_ ?_ _); rotate_left; (focus (dsimp only; first | omega | (simp only [size_ext, World.size_alloc, Array.size_append]; omega)))) | (with_reducible refine Grew.ext ?_ _ _) | (with_reducible refine Grew.drewN ?_ _) | (with_reducible refine Grew.drew ?_)))))).mono ?_); rintro e w1 ⟨rfl, oc, nc, rfl⟩)))
                go_ret
                exact HP2.out _ _ (exAll_no hiR hjC hE).symm (Grew.trans gw (Grew.trans gx (by (show Grew _ _; (try simp only [← Array.append_assoc]); repeat (first | (with_reducible exact Grew.same_o) | (with_reducible exact Grew.refl _) | (with_reducible assumption) | (with_reducible refine Grew.alloc ?_ _) | (with_reducible refine Grew.app_r ?_) | ((with_reducible refine Grew.setCell ?_ ?_ _); rotate_left; (focus (dsimp only; first | omega | (simp only [size_ext, World.size_alloc, Array.size_append]; omega)))) | (with_reducible refine Grew.ext ?_ _ _) | (with_reducible refine Grew.drewN ?_ _) | (with_reducible refine Grew.drew ?_))))))
              · rw [hE] at hsg
                have hs2 : (SG != 0) = false := hsg
                clear hsg
                go_wp2
                refine wp_region_R (Grew wr) [] [(0,0), (0,1), (0,2), (0,5), (0,6), (0,7), (0,8), (0,9), (0,10), (0,11), (0,12), (0,13), (0,14), (0,16), (0,17), (0,18), (1,3), (1,4), (1,15), (1,19), (1,20), (1,21), (0,22)] (by kernel_rfl) (by kernel_rfl) (fun _ _ _ _ h _ => h) (by first | exact ⟨_, _, ext_drew⟩ | exact ⟨_, _, drew_ext0⟩ | (show Grew _ _; repeat (first | (with_reducible exact Grew.refl _) | (with_reducible assumption) | (with_reducible exact Grew.same_o) | (with_reducible exact Grew.app_o) | (with_reducible refine Grew.ext ?_ _ _) | (with_reducible refine Grew.alloc ?_ _) | ((with_reducible refine Grew.setCell ?_ ?_ _); rotate_left; (focus (dsimp only; first | omega | (simp only [size_ext, World.size_alloc, Array.size_append]; omega)))) | (with_reducible refine Grew.drewN ?_ _) | (with_reducible refine Grew.drew ?_)))) ?_
                go_wp2_with (first | ((with_reducible refine wpR_id ?_); first | (refine wpR_take (v := ?_) rfl rfl ?_ ?_; rotate_left; (focus (rintro w' ⟨o', n', rfl⟩; go_simp; try with_reducible rfl)); simp only [Act.put, List.setIfInBounds_toArray, List.set_cons_zero, List.set_cons_succ]) | (refine wpR_pure (v := ?_) rfl rfl ?_ ?_; rotate_left; (focus (intro w'; go_simp; try with_reducible rfl)); simp only [Act.put, List.setIfInBounds_toArray, List.set_cons_zero, List.set_cons_succ]) | (refine wpR_takeG (v := ?_) rfl rfl rfl rfl rfl ?_ ?_; rotate_left; (focus (rintro w' ⟨o', n', rfl⟩; go_simp; try with_reducible rfl)); simp only [Act.put, List.setIfInBounds_toArray, List.set_cons_zero, List.set_cons_succ]) | (refine wpR_skip rfl rfl rfl rfl rfl rfl ?_; simp only [Act.put, List.setIfInBounds_toArray, List.set_cons_zero, List.set_cons_succ]) | (refine wpR_skipU rfl rfl rfl rfl rfl ?_; simp only [Act.put, List.setIfInBounds_toArray, List.set_cons_zero, List.set_cons_succ]) | (refine wpR_do rfl rfl (fun K hK => ?_)) | (refine wpR_doG rfl rfl rfl rfl rfl (fun K hK => ?_)) | (refine wpR_last rfl rfl (fun K hK => ?_)) | (refine wpR_nil ?_)) | ((with_reducible refine wpR_go ?_ ?_); (focus (show Grew _ _; repeat (first | (with_reducible exact Grew.refl _) | (with_reducible assumption) | (with_reducible exact Grew.same_o) | (with_reducible exact Grew.app_o) | (with_reducible refine Grew.ext ?_ _ _) | (with_reducible refine Grew.alloc ?_ _) | ((with_reducible refine Grew.setCell ?_ ?_ _); rotate_left; (focus (dsimp only; first | omega | (simp only [size_ext, World.size_alloc, Array.size_append]; omega)))) | (with_reducible refine Grew.drewN ?_ _) | (with_reducible refine Grew.drew ?_))))) | ((with_reducible refine upon_id ?_); refine upon_fop rfl (by assumption) (by assumption) ?_; intro rr nn hr) | (go_at_call 72; ((with_reducible refine (hat7 _ (by (show Grew _ _; (try simp only [← Array.append_assoc]); repeat (first | (with_reducible exact Grew.same_o) | (with_reducible exact Grew.refl _) | (with_reducible assumption) | (with_reducible refine Grew.alloc ?_ _) | (with_reducible refine Grew.app_r ?_) | ((with_reducible refine Grew.setCell ?_ ?_ _); rotate_left; (focus (dsimp only; first | omega | (simp only [size_ext, World.size_alloc, Array.size_append]; omega)))) | (with_reducible refine Grew.ext ?_ _ _) | (with_reducible refine Grew.drewN ?_ _) | (with_reducible refine Grew.drew ?_))))).mono ?_); rintro e w1 ⟨b7, rfl, h7, o4, n4, rfl⟩)) | (go_at_call 72; ((with_reducible refine (hat3 _ (by (show Grew _ _; (try simp only [← Array.append_assoc]); repeat (first | (with_reducible exact Grew.same_o) | (with_reducible exact Grew.refl _) | (with_reducible assumption) | (with_reducible refine Grew.alloc ?_ _) | (with_reducible refine Grew.app_r ?_) | ((with_reducible refine Grew.setCell ?_ ?_ _); rotate_left; (focus (dsimp only; first | omega | (simp only [size_ext, World.size_alloc, Array.size_append]; omega)))) | (with_reducible refine Grew.ext ?_ _ _) | (with_reducible refine Grew.drewN ?_ _) | (with_reducible refine Grew.drew ?_))))).mono ?_); rintro e w1 ⟨b3, rfl, h3, o5, n5, rfl⟩)) | (go_at_call 27; ((with_reducible refine (hof b7 _ h7).mono ?_); rintro e w1 ⟨va7, rfl, hva, oa, na, rfl⟩; (obtain ⟨x1, x2, x3, x4, x5, rfl⟩ := hva.shape); (try simp only [drew_ext, drewN_ext, ext_ext] at hva))) | (go_at_call 27; ((with_reducible refine (hog b3 _ h3).mono ?_); rintro e w1 ⟨vb, rfl, hvb, ob, nb, rfl⟩; (obtain ⟨y1, y2, y3, y4, y5, rfl⟩ := hvb.shape); (try simp only [drew_ext, drewN_ext, ext_ext] at hvb))) | (go_at_call 32; ((with_reducible refine (hsh2 _ _ (hva.grew (by (show Grew _ _; (try simp only [← Array.append_assoc]); repeat (first | (with_reducible exact Grew.same_o) | (with_reducible exact Grew.refl _) | (with_reducible assumption) | (with_reducible refine Grew.alloc ?_ _) | (with_reducible refine Grew.app_r ?_) | ((with_reducible refine Grew.setCell ?_ ?_ _); rotate_left; (focus (dsimp only; first | omega | (simp only [size_ext, World.size_alloc, Array.size_append]; omega)))) | (with_reducible refine Grew.ext ?_ _ _) | (with_reducible refine Grew.drewN ?_ _) | (with_reducible refine Grew.drew ?_)))))).mono ?_); rintro e w1 ⟨vs, rfl, hvs, os, ns, rfl⟩; (obtain ⟨z1, z2, z3, z4, z5, rfl⟩ := hvs.shape); (try simp only [drew_ext, drewN_ext, ext_ext] at hvs))) | (go_at_call 34; ((with_reducible refine (hcm _ _ _ (hvs.grew (by (show Grew _ _; (try simp only [← Array.append_assoc]); repeat (first | (with_reducible exact Grew.same_o) | (with_reducible exact Grew.refl _) | (with_reducible assumption) | (with_reducible refine Grew.alloc ?_ _) | (with_reducible refine Grew.app_r ?_) | ((with_reducible refine Grew.setCell ?_ ?_ _); rotate_left; (focus (dsimp only; first | omega | (simp only [size_ext, World.size_alloc, Array.size_append]; omega)))) | (with_reducible refine Grew.ext ?_ _ _) | (with_reducible refine Grew.drewN ?_ _) | (with_reducible refine Grew.drew ?_))))) (hvb.grew (by (show Grew _ _; (try simp only [← Array.append_assoc]); repeat (first | (with_reducible exact Grew.same_o) | (with_reducible exact Grew.refl _) | (with_reducible assumption) | (with_reducible refine Grew.alloc ?_ _) | (with_reducible refine Grew.app_r ?_) | ((with_reducible refine Grew.setCell ?_ ?_ _); rotate_left; (focus (dsimp only; first | omega | (simp only [size_ext, World.size_alloc, Array.size_append]; omega)))) | (with_reducible refine Grew.ext ?_ _ _) | (with_reducible refine Grew.drewN ?_ _) | (with_reducible refine Grew.drew ?_)))))).mono ?_); rintro e w1 ⟨rfl, oc, nc, rfl⟩)))
                go_roundw
                case rel => exact ⟨j + 1, hjC, rfl, by go_num, Grew.trans gx (by (show Grew _ _; (try simp only [← Array.append_assoc]); repeat (first | (with_reducible exact Grew.same_o) | (with_reducible exact Grew.refl _) | (with_reducible assumption) | (with_reducible refine Grew.alloc ?_ _) | (with_reducible refine Grew.app_r ?_) | ((with_reducible refine Grew.setCell ?_ ?_ _); rotate_left; (focus (dsimp only; first | omega | (simp only [size_ext, World.size_alloc, Array.size_append]; omega)))) | (with_reducible refine Grew.ext ?_ _ _) | (with_reducible refine Grew.drewN ?_ _) | (with_reducible refine Grew.drew ?_)))), hid fun b hb => by
                  by_cases h : b < j
                  · exact hT2.out b h
                  · have e : b = j := by omega
                    subst e; exact hE⟩
                case measure => simp [intOf]; omega
            · have e : j = C := by omega
              subst e
              go_wp2
              go_roundw
              case rel => exact ⟨i + 1, hiR, rfl, by go_num, gx, hid fun a b ha hb => by
                by_cases h : a < i
                · exact hT1.out a b h hb
                · have e : a = i := by omega
                  subst e; exact hT2.out b hb⟩
              case measure => simp [intOf]; omega
        · have e : i = R := by omega
          subst e
          go_wp2
          go_ret
          exact HP2.out _ _ (exAll_iff.2 fun a b ha hb => hT1.out a b ha hb).symm (Grew.trans gw (Grew.trans gr (by (show Grew _ _; (try simp only [← Array.append_assoc]); repeat (first | (with_reducible exact Grew.same_o) | (with_reducible exact Grew.refl _) | (with_reducible assumption) | (with_reducible refine Grew.alloc ?_ _) | (with_reducible refine Grew.app_r ?_) | ((with_reducible refine Grew.setCell ?_ ?_ _); rotate_left; (focus (dsimp only; first | omega | (simp only [size_ext, World.size_alloc, Array.size_append]; omega)))) | (with_reducible refine Grew.ext ?_ _ _) | (with_reducible refine Grew.drewN ?_ _) | (with_reducible refine Grew.drew ?_))))))
end Go.Proofs.Ytcmggfpcbijcjaa
end
section
/-
  The plain law of EquilScales.
-/
set_option linter.unusedSimpArgs false
set_option linter.unusedVariables false
open Go Go.RowKit Sedge
namespace Go.Proofs.Ytcmggfpcbijcjaa
theorem num_self {x : MatM} {D : Value} {w : World} (hD : FS w D x.ws) (hx : x.good = true) {i j : Nat} (hi : (i : Int) < x.rows) (hj : (j : Int) < x.cols) : IsF (x.num i j) (x.num i j) := by
  have hp := MatM.good_place hx hi hj
  have hl := hD.len
  obtain ⟨blk, o, cap, rfl, hblk, hc⟩ := hD.open (by omega)
  obtain ⟨b, hb0, hf⟩ := hc (x.place i j) (by unfold MatM.place; omega)
  exact hf.self
theorem sca_tab {x : MatM} {R C : Nat} {T' L : List Nat} {S : Nat → Nat → Nat} (lT : T'.length = R * C) (hT : ∀ i j, i < R → j < C → T'.getD (i * C + j) 0 = S i j) (hL : ∀ i j, i < R → j < C → L.getD (i + j * R) 0 = S i j) : MatM.tab ⟨L, 0, R, C, (max R 1 : Nat)⟩ = T' := by
  refine tab_ext (R := R) (C := C) (by rw [MatM.tab_length]; rfl) lT fun i j hi hj => ?_
  rw [hT i j hi hj, ← hL i j hi hj]
  have h := (MatM.tab_hold ⟨L, 0, R, C, (max R 1 : Nat)⟩).get i j hi hj
  have e2 : MatM.num ⟨L, 0, R, C, (max R 1 : Nat)⟩ i j = L.getD (i + j * R) 0 := by
    unfold MatM.num
    rw [show max R 1 = R by omega, matd_place]
  rw [e2] at h
  exact h
theorem sca_law {x : MatM} {R C : Nat} {T' L : List Nat} {rs cs : List Int} (hR : x.rows = R) (hC : x.cols = C) (hself : ∀ i j, i < R → j < C → IsF (x.num i j) (x.num i j))
    (br : ∀ k, k < R → -10000 ≤ rs.getD k 0 ∧ rs.getD k 0 ≤ 10000) (bc : ∀ k, k < C → -10000 ≤ cs.getD k 0 ∧ cs.getD k 0 ≤ 10000)
    (lT : T'.length = R * C) (hT : ∀ i j, i < R → j < C → T'.getD (i * C + j) 0 = shF rs cs i j (x.num i j)) (hL : ∀ i j, i < R → j < C → L.getD (i + j * R) 0 = shF rs cs i j (x.num i j)) :
    (finL (numL ⟨L, 0, R, C, (max R 1 : Nat)⟩) && finL (numL x) && exAll R C fun i j => exP (x.num i j) (shF rs cs i j (x.num i j))) = (finL x.tab && finL T' && exAll R C (exR rs cs fun i j => x.num i j)) := by
  have e1 := sca_tab (x := x) (S := fun i j => shF rs cs i j (x.num i j)) lT hT hL
  rw [← fin_tab2 ⟨L, 0, R, C, (max R 1 : Nat)⟩, e1, ← fin_tab2 x, Bool.and_comm (finL T')]
  cases h1 : finL x.tab
  · rfl
  · cases h2 : finL T'
    · rfl
    · rw [Bool.true_and, Bool.true_and, Bool.true_and]
      refine exAll_congr fun i j hi hj => ?_
      have b1 := br i hi
      have b2 := bc j hj
      have hk : i * C + j < R * C := at_lt hi hj
      have ex : x.tab.getD (i * C + j) 0 = x.num i j := by
        have h := x.tab_hold.get i j (by omega) (by omega)
        rw [hC] at h; exact h
      have f1 := (finL_iff2 _).1 h1 (i * C + j) (by rw [MatM.tab_length, hR, hC]; exact hk)
      have f2 := (finL_iff2 _).1 h2 (i * C + j) (by rw [lT]; exact hk)
      rw [ex] at f1
      rw [hT i j hi hj] at f2
      have es : shF rs cs i j (x.num i j) = fscale (x.num i j) (rs.getD i 0 + cs.getD j 0) := by
        unfold shF
        rw [heldZ_id (k := rs.getD i 0) (by omega), heldZ_id (k := cs.getD j 0) (by omega), heldZ_id (by omega)]
      show exP (x.num i j) (shF rs cs i j (x.num i j)) = decide (val (shF rs cs i j (x.num i j)) * p2 (-(rs.getD i 0) - cs.getD j 0) = val (x.num i j))
      rw [es] at f2 ⊢
      unfold finB at f1 f2
      rw [exact_law (hself i j hi hj) (by simpa using f1) (by simpa using f2) (by omega), show -(rs.getD i 0 + cs.getD j 0) = -(rs.getD i 0) - cs.getD j 0 by omega]
end Go.Proofs.Ytcmggfpcbijcjaa
end
section
/-
  The walk of the law EquilScales (layer 15).
-/
set_option linter.unusedSimpArgs false
set_option linter.unusedVariables false
open Go Go.RowKit Sedge
namespace Go.Proofs.Ytcmggfpcbijcjaa
/-- What Exact's answer is, in both readings. -/
def ScaB (x : MatM) (rs cs : List Int) (R C : Nat) (b : Bool) : Prop := ∃ L, L.length = R * C ∧ (∀ i j, i < R → j < C → L.getD (i + j * R) 0 = shF rs cs i j (x.num i j)) ∧ b = (finL (numL ⟨L, 0, R, C, (max R 1 : Nat)⟩) && finL (numL x) && exAll R C fun i j => exP (x.num i j) (shF rs cs i j (x.num i j)))
set_option maxRecDepth 100000 in
set_option maxHeartbeats 8000000 in
theorem sca_main (x : MatM) (aD : Option Addr) (cD : Nat) (aR aC : Option Addr) (cR cC : Nat) (rs cs : List Int) (w : World) (hD : FS w (.slice aD x.ws.length cD) x.ws) (hwf : x.wf) (hVR : IS .i64 w (.slice aR rs.length cR) rs) (hVC : IS .i64 w (.slice aC cs.length cC) cs) (R C : Nat) (hR : x.rows = R) (hC : x.cols = C) (lr : rs.length = R) (lc : cs.length = C) (hg : MatM.great x = false) (hl : x.ws.length ≤ 1000) (hr : R ≤ 20) (hc : C ≤ 20) (hgo : x.good = true) : Calls Try.prog 22 #[.agg #[.slice aD x.ws.length cD, .int .i64 x.off, .int .i64 x.rows, .int .i64 x.cols, .int .i64 x.ld], .slice aR rs.length cR, .slice aC cs.length cC] w (fun e w' => e = .returned (.bool true) ∧ ∃ o n, w' = ext w o n) := by
  have hgt : ∀ w', FS w' (.slice aD x.ws.length cD) x.ws → Calls Try.prog 42 #[.agg #[.slice aD x.ws.length cD, .int .i64 x.off, .int .i64 x.rows, .int .i64 x.cols, .int .i64 x.ld]] w' (fun e w2 => e = .returned (.bool false) ∧ ∃ o n, w2 = ext w' o n) := fun w' h => by
    have := great_any x _ w' h; rw [hg] at this; exact this
  have hap : ∀ w', FS w' (.slice aD x.ws.length cD) x.ws → Calls Try.prog 43 #[.agg #[.slice aD x.ws.length cD, .int .i64 x.off, .int .i64 x.rows, .int .i64 x.cols, .int .i64 x.ld]] w' (fun e w2 => ∃ a c, e = .returned (.agg #[.slice a x.ws.length c, .int .i64 x.off, .int .i64 x.rows, .int .i64 x.cols, .int .i64 x.ld]) ∧ FS w2 (.slice a x.ws.length c) x.ws ∧ ∃ o n, w2 = ext w' o n) := fun w' h => by
    refine (apart_any x _ w' h (by omega)).mono fun e w2 hh => ?_
    obtain ⟨v, rfl, hv, q⟩ := hh
    obtain ⟨a, c, rfl⟩ := hv.fs.shape
    exact ⟨a, c, rfl, hv.fs, q⟩
  have hall : ∀ a c w', FS w' (.slice a x.ws.length c) x.ws → FS w' (.slice aD x.ws.length cD) x.ws → Calls Try.prog 47 #[.slice a x.ws.length c, .slice aD x.ws.length cD] w' (fun e w2 => e = .returned (.bool true) ∧ ∃ o n, w2 = ext w' o n) := fun a c w' h1 h2 => by
    have := all_any _ _ x.ws x.ws w' h1 h2; rw [decide_eq_true rfl] at this; exact this
  have hgd : ∀ w', FS w' (.slice aD x.ws.length cD) x.ws → Calls Try.prog 46 #[.agg #[.slice aD x.ws.length cD, .int .i64 x.off, .int .i64 x.rows, .int .i64 x.cols, .int .i64 x.ld]] w' (fun e w2 => e = .returned (.bool true) ∧ ∃ o n, w2 = ext w' o n) := fun w' h => by
    have := rgood_any x _ w' h hwf; rw [hgo] at this; exact this
  obtain ⟨LD, hLD⟩ : ∃ LD, LD = max R 1 := ⟨_, rfl⟩
  have HLD := hid hLD
  have hld : LD ≤ 64 := by omega
  have hm : R * C ≤ 20 * 20 := Nat.mul_le_mul hr hc
  have hsc : ∀ a c w', FS w' (.slice a x.ws.length c) x.ws → IS .i64 w' (.slice aR rs.length cR) rs → IS .i64 w' (.slice aC cs.length cC) cs → Calls Try.prog 109 #[.agg #[.slice a x.ws.length c, .int .i64 x.off, .int .i64 R, .int .i64 C, .int .i64 x.ld], .slice aR rs.length cR, .slice aC cs.length cC] w' (fun e w2 => ∃ k L, e = .returned (.tuple #[.agg #[.slice (some ⟨k, 0, none⟩) (R * C) (R * C), .int .i64 0, .int .i64 R, .int .i64 C, .int .i64 LD], .int .i64 0]) ∧ w'.heap.size ≤ k ∧ FW w2 k L ∧ L.length = R * C ∧ (∀ i j, i < R → j < C → L.getD (i + j * R) 0 = shF rs cs i j (x.num i j)) ∧ ∃ o n, w2 = ext w' o n) := fun a c w' h1 h2 h3 => by
    rw [hLD]; exact scale_ok x _ _ _ rs cs R C w' h1 hgo hwf (by omega) hR hC (by omega) (by omega) h2 h3 lr lc
  have hex : ∀ a c w', FS w' (.slice a x.ws.length c) x.ws → IS .i64 w' (.slice aR rs.length cR) rs → IS .i64 w' (.slice aC cs.length cC) cs → Calls Try.prog 111 #[.agg #[.slice a x.ws.length c, .int .i64 x.off, .int .i64 R, .int .i64 C, .int .i64 x.ld], .slice aR rs.length cR, .slice aC cs.length cC] w' (fun e w2 => ∃ b, e = .returned (.bool b) ∧ Hid (ScaB x rs cs R C b) ∧ ∃ o n, w2 = ext w' o n) := fun a c w' h1 h2 h3 => by
    refine (eexact_ok x _ _ _ rs cs R C w' h1 hgo hwf (by omega) hR hC (by omega) (by omega) h2 h3 lr lc).mono fun e w2 hh => ?_
    obtain ⟨L, q1, q2, rfl, q3⟩ := hh
    exact ⟨_, rfl, hid ⟨L, q1, q2, rfl⟩, q3⟩
  have hof : ∀ w', FS w' (.slice aD x.ws.length cD) x.ws → Calls Try.prog 48 #[.agg #[.slice aD x.ws.length cD, .int .i64 x.off, .int .i64 x.rows, .int .i64 x.cols, .int .i64 x.ld]] w' (fun e w2 => ∃ a c, e = .returned (.agg #[.int .i64 x.rows, .int .i64 x.cols, .slice a x.tab.length c]) ∧ FS w2 (.slice a x.tab.length c) x.tab ∧ ∃ o n, w2 = ext w' o n) := fun w' h => by
    refine (rof_any x _ w' h hgo (by omega) (by omega) (by omega) hwf).mono fun e w2 hh => ?_
    obtain ⟨v, rfl, hv, q⟩ := hh
    obtain ⟨a, c, rfl⟩ := hv.fs.shape
    exact ⟨a, c, rfl, hv.fs, q⟩
  have lT0 : x.tab.length = R * C := by rw [MatM.tab_length, hR, hC]; rfl
  have hhold : Hold (fun i j => i * C + j) R C x.tab x.tab (fun i j => x.num i j) := by
    have hh : Hold (fun i j => i * x.cols.toNat + j) x.rows.toNat x.cols.toNat x.tab x.tab x.num := ⟨rfl, x.tab_hold.get, fun _ _ => rfl⟩
    rw [hR, hC] at hh; exact hh
  have hself : ∀ i j, i < R → j < C → IsF (x.num i j) (x.num i j) := fun i j hi hj => num_self hD hgo (by omega) (by omega)
  have hrs : ∀ a c w', FS w' (.slice a x.tab.length c) x.tab → IS .i64 w' (.slice aR rs.length cR) rs → IS .i64 w' (.slice aC cs.length cC) cs → Calls Try.prog 112 #[.agg #[.int .i64 R, .int .i64 C, .slice a x.tab.length c], .slice aR rs.length cR, .slice aC cs.length cC] w' (fun e w2 => ∃ a c T, e = .returned (.agg #[.int .i64 R, .int .i64 C, .slice a T.length c]) ∧ FS w2 (.slice a T.length c) T ∧ Hid (T.length = R * C) ∧ Hid (∀ i j, i < R → j < C → T.getD (i * C + j) 0 = shF rs cs i j (x.num i j)) ∧ ∃ o n, w2 = ext w' o n) := fun a c w' h1 h2 h3 => by
    refine (rshift_any R C x.tab rs cs (fun i j => x.num i j) _ _ _ w' h1 h2 h3 lr lc lT0 hhold (by omega) (by omega)).mono fun e w2 hh => ?_
    obtain ⟨v, t, rfl, hv, q1, q2⟩ := hh
    obtain ⟨a2, c2, rfl⟩ := hv.fs.shape
    exact ⟨a2, c2, t, rfl, hv.fs, hid (q1.len.trans lT0), hid q1.get, q2⟩
  have hrx : ∀ b, ScaB x rs cs R C b → (∀ k, k < R → -10000 ≤ rs.getD k 0 ∧ rs.getD k 0 ≤ 10000) → (∀ k, k < C → -10000 ≤ cs.getD k 0 ∧ cs.getD k 0 ≤ 10000) → ∀ a c w', FS w' (.slice a x.tab.length c) x.tab → IS .i64 w' (.slice aR rs.length cR) rs → IS .i64 w' (.slice aC cs.length cC) cs → Calls Try.prog 113 #[.agg #[.int .i64 R, .int .i64 C, .slice a x.tab.length c], .slice aR rs.length cR, .slice aC cs.length cC] w' (fun e w2 => e = .returned (.bool b) ∧ ∃ o n, w2 = ext w' o n) := fun b hb br bc a c w' h1 h2 h3 => by
    refine (rexact_any R C x.tab rs cs (fun i j => x.num i j) _ _ _ w' h1 h2 h3 lr lc lT0 hhold (by omega) (by omega) br bc).mono fun e w2 hh => ?_
    obtain ⟨T', l1, l2, rfl, q⟩ := hh
    obtain ⟨L, q1, q2, rfl⟩ := hb
    exact ⟨by rw [sca_law hR hC hself br bc l1 l2 q2], q⟩
  have hxY : ∀ L, L.length = R * C → (∀ i j, i < R → j < C → L.getD (i + j * R) 0 = shF rs cs i j (x.num i j)) → ∀ k w', FW w' k L → (Calls Try.prog 46 #[.agg #[.slice (some ⟨k, 0, none⟩) (R * C) (R * C), .int .i64 0, .int .i64 R, .int .i64 C, .int .i64 LD]] w' (fun e w2 => e = .returned (.bool true) ∧ ∃ o n, w2 = ext w' o n)) ∧ (Calls Try.prog 48 #[.agg #[.slice (some ⟨k, 0, none⟩) (R * C) (R * C), .int .i64 0, .int .i64 R, .int .i64 C, .int .i64 LD]] w' (fun e w2 => ∃ a c T, e = .returned (.agg #[.int .i64 R, .int .i64 C, .slice a T.length c]) ∧ FS w2 (.slice a T.length c) T ∧ Hid (∀ T', T'.length = R * C → (∀ i j, i < R → j < C → T'.getD (i * C + j) 0 = shF rs cs i j (x.num i j)) → T = T') ∧ ∃ o n, w2 = ext w' o n)) := fun L lL hL k w' hF => by
    have hgy : MatM.good ⟨L, 0, R, C, LD⟩ = true := by rw [hLD]; exact matd_goodA lL
    have hwy : MatM.wf ⟨L, 0, R, C, LD⟩ := by simp [MatM.wf, I64]; omega
    have hfs : FS w' (.slice (some ⟨k, 0, none⟩) (R * C) (R * C)) L := by have := hF.fs (by omega) (R * C); rw [lL] at this; exact this
    refine ⟨?_, ?_⟩
    · have := rgood_any ⟨L, 0, R, C, LD⟩ _ w' hfs hwy; rw [hgy] at this; exact this
    · refine (rof_any ⟨L, 0, R, C, LD⟩ _ w' hfs hgy (by show (R : Int) ≤ 1000; omega) (by show (C : Int) ≤ 1000; omega) (by show L.length ≤ _; omega) hwy).mono fun e w2 hh => ?_
      obtain ⟨v, rfl, hv, q⟩ := hh
      obtain ⟨a, c, rfl⟩ := hv.fs.shape
      exact ⟨a, c, _, rfl, hv.fs, hid fun T' l1 l2 => by rw [hLD]; exact sca_tab (x := x) (S := fun i j => shF rs cs i j (x.num i j)) l1 l2 hL, q⟩
  have d1 : decide ((60 : Int) < (rs.length : Int)) = false := by simp; omega
  have d2 : decide ((60 : Int) < (cs.length : Int)) = false := by simp; omega
  have d3 : ((rs.length : Int) != R) = false := by simp [lr]
  have d4 : ((cs.length : Int) != C) = false := by simp [lc]
  rw [hR, hC] at hgt hap hgd hof ⊢
  obtain ⟨TX, hTX⟩ : ∃ T, T = x.tab := ⟨_, rfl⟩
  rw [← hTX] at hof hrs hrx
  have HLR := hid lr
  have HLC := hid lc
  have HXY := hid hxY
  have HRX := hid hrx
  clear hg hl hgo hwf hR hC lr lc hLD lT0 hhold hself hTX hxY hrx
  go_enter Try.func22, Try.ntmps22
  refine seq_stop ?_
  go_wp2
  refine stop_go (fun W hW => ?_)
  have s1 : w.heap.size < W.heap.size := by rw [hW]; simp only [World.size_alloc]; omega
  have b1 : ∀ i, W.cell? ⟨w.heap.size, i, none⟩ = (#[.slice aD x.ws.length cD, .int .i64 x.off, .int .i64 R, .int .i64 C, .int .i64 x.ld] : Array Value)[i]? := by intro i; rw [hW]; go_simp
  have X1 : Box W (w.heap.size) #[.slice aD x.ws.length cD, .int .i64 x.off, .int .i64 R, .int .i64 C, .int .i64 x.ld] := by rw [hW]; exact Box.new' (by first | rfl | (simp only [World.size_alloc]; done) | (simp only [World.size_alloc]; omega))
  have f1 : ∀ i, W.frozen? ⟨w.heap.size, i, none⟩ = false := by intro i; rw [hW]; go_simp
  have g0 : Grew w W := by rw [hW]; exact (Grew.refl _).alloc _
  clear hW
  obtain ⟨p3, hp3⟩ : ∃ p, p = w.heap.size := ⟨_, rfl⟩
  have Y3 : Box W p3 #[.slice aD x.ws.length cD, .int .i64 x.off, .int .i64 R, .int .i64 C, .int .i64 x.ld] := by rw [hp3]; exact X1
  have hDW := hD.grew g0
  have t3 := Y3.cell
  have l3 := Y3.lt
  simp only [← hp3]
  clear X1 b1 s1 f1 hp3
  go_upto_region 6 with (first | (go_at_call 101; ((with_reducible refine (awake15 _).mono ?_); rintro e w1 ⟨rfl, o1, n1, rfl⟩)) | (go_at_call 42; ((with_reducible refine (hgt _ (hDW.grew (by (show Grew _ _; (try simp only [← Array.append_assoc]); repeat (first | (with_reducible exact Grew.same_o) | (with_reducible exact Grew.refl _) | (with_reducible assumption) | (with_reducible refine Grew.alloc ?_ _) | (with_reducible refine Grew.app_r ?_) | ((with_reducible refine Grew.setCell ?_ ?_ _); rotate_left; (focus (dsimp only; first | omega | (simp only [size_ext, World.size_alloc, Array.size_append]; omega)))) | (with_reducible refine Grew.ext ?_ _ _) | (with_reducible refine Grew.drewN ?_ _) | (with_reducible refine Grew.drew ?_)))))).mono ?_); rintro e w1 ⟨rfl, o2, n2, rfl⟩)) | (go_at_call 43; ((with_reducible refine (hap _ (hDW.grew (by (show Grew _ _; (try simp only [← Array.append_assoc]); repeat (first | (with_reducible exact Grew.same_o) | (with_reducible exact Grew.refl _) | (with_reducible assumption) | (with_reducible refine Grew.alloc ?_ _) | (with_reducible refine Grew.app_r ?_) | ((with_reducible refine Grew.setCell ?_ ?_ _); rotate_left; (focus (dsimp only; first | omega | (simp only [size_ext, World.size_alloc, Array.size_append]; omega)))) | (with_reducible refine Grew.ext ?_ _ _) | (with_reducible refine Grew.drewN ?_ _) | (with_reducible refine Grew.drew ?_)))))).mono ?_); rintro e w1 ⟨va, vc, rfl, hv, o3, n3, rfl⟩; (try simp only [drew_ext, drewN_ext, ext_ext, Array.append_assoc] at hv))))
  refine name_any (fun V hV => ?_)
  obtain ⟨p7, hp7⟩ : ∃ p, p = W.heap.size + (o1.size + (o2.size + o3.size)) := ⟨_, rfl⟩
  have gV : Grew W V := by rw [← hV]; (show Grew _ _; (try simp only [← Array.append_assoc]); repeat (first | (with_reducible exact Grew.same_o) | (with_reducible exact Grew.refl _) | (with_reducible assumption) | (with_reducible refine Grew.alloc ?_ _) | (with_reducible refine Grew.app_r ?_) | ((with_reducible refine Grew.setCell ?_ ?_ _); rotate_left; (focus (dsimp only; first | omega | (simp only [size_ext, World.size_alloc, Array.size_append]; omega)))) | (with_reducible refine Grew.ext ?_ _ _) | (with_reducible refine Grew.drewN ?_ _) | (with_reducible refine Grew.drew ?_)))
  have gw := Grew.trans g0 gV
  have Z3 := Y3.grew gV
  have Z7 : Box V p7 #[.slice va x.ws.length vc, .int .i64 x.off, .int .i64 R, .int .i64 C, .int .i64 x.ld] := by rw [← hV]; exact Box.new' (by rw [hp7]; simp only [size_ext, Array.size_append])
  have hvV : FS V (.slice va x.ws.length vc) x.ws := by rw [← hV]; exact hv.grew (by (show Grew _ _; (try simp only [← Array.append_assoc]); repeat (first | (with_reducible exact Grew.same_o) | (with_reducible exact Grew.refl _) | (with_reducible assumption) | (with_reducible refine Grew.alloc ?_ _) | (with_reducible refine Grew.app_r ?_) | ((with_reducible refine Grew.setCell ?_ ?_ _); rotate_left; (focus (dsimp only; first | omega | (simp only [size_ext, World.size_alloc, Array.size_append]; omega)))) | (with_reducible refine Grew.ext ?_ _ _) | (with_reducible refine Grew.drewN ?_ _) | (with_reducible refine Grew.drew ?_))))
  have hDV := hDW.grew gV
  have hXV := hVR.grew gw
  have hYV := hVC.grew gw
  have t3 := Z3.cell
  have l3 := Z3.lt
  have t7 := Z7.cell
  have l7 := Z7.lt
  simp only [← hp7]
  clear hV hp7 hv
  go_upto_region 7 with (first | (go_at_call 109; ((with_reducible refine (hsc _ _ _ (hvV.grew (by (show Grew _ _; (try simp only [← Array.append_assoc]); repeat (first | (with_reducible exact Grew.same_o) | (with_reducible exact Grew.refl _) | (with_reducible assumption) | (with_reducible refine Grew.alloc ?_ _) | (with_reducible refine Grew.app_r ?_) | ((with_reducible refine Grew.setCell ?_ ?_ _); rotate_left; (focus (dsimp only; first | omega | (simp only [size_ext, World.size_alloc, Array.size_append]; omega)))) | (with_reducible refine Grew.ext ?_ _ _) | (with_reducible refine Grew.drewN ?_ _) | (with_reducible refine Grew.drew ?_))))) (hXV.grew (by (show Grew _ _; (try simp only [← Array.append_assoc]); repeat (first | (with_reducible exact Grew.same_o) | (with_reducible exact Grew.refl _) | (with_reducible assumption) | (with_reducible refine Grew.alloc ?_ _) | (with_reducible refine Grew.app_r ?_) | ((with_reducible refine Grew.setCell ?_ ?_ _); rotate_left; (focus (dsimp only; first | omega | (simp only [size_ext, World.size_alloc, Array.size_append]; omega)))) | (with_reducible refine Grew.ext ?_ _ _) | (with_reducible refine Grew.drewN ?_ _) | (with_reducible refine Grew.drew ?_))))) (hYV.grew (by (show Grew _ _; (try simp only [← Array.append_assoc]); repeat (first | (with_reducible exact Grew.same_o) | (with_reducible exact Grew.refl _) | (with_reducible assumption) | (with_reducible refine Grew.alloc ?_ _) | (with_reducible refine Grew.app_r ?_) | ((with_reducible refine Grew.setCell ?_ ?_ _); rotate_left; (focus (dsimp only; first | omega | (simp only [size_ext, World.size_alloc, Array.size_append]; omega)))) | (with_reducible refine Grew.ext ?_ _ _) | (with_reducible refine Grew.drewN ?_ _) | (with_reducible refine Grew.drew ?_)))))).mono ?_); rintro e w1 ⟨k, L, rfl, hk, hF, lL, hnum, o4, n4, rfl⟩; (replace lL := hid lL); (replace hnum := hid hnum))))
  refine name_any (fun U hU => ?_)
  obtain ⟨p8, hp8⟩ : ∃ p, p = V.heap.size + o4.size := ⟨_, rfl⟩
  have gU : Grew V U := by rw [← hU]; (show Grew _ _; (try simp only [← Array.append_assoc]); repeat (first | (with_reducible exact Grew.same_o) | (with_reducible exact Grew.refl _) | (with_reducible assumption) | (with_reducible refine Grew.alloc ?_ _) | (with_reducible refine Grew.app_r ?_) | ((with_reducible refine Grew.setCell ?_ ?_ _); rotate_left; (focus (dsimp only; first | omega | (simp only [size_ext, World.size_alloc, Array.size_append]; omega)))) | (with_reducible refine Grew.ext ?_ _ _) | (with_reducible refine Grew.drewN ?_ _) | (with_reducible refine Grew.drew ?_)))
  have gwU := Grew.trans gw gU
  have Z8 : Box U p8 #[.slice (some ⟨k, 0, none⟩) (R * C) (R * C), .int .i64 0, .int .i64 R, .int .i64 C, .int .i64 LD] := by rw [← hU]; exact Box.new' (by rw [hp8]; simp only [size_ext, Array.size_append])
  have hFU : FW U k L := by rw [← hU]; exact hF.grew (by (show Grew _ _; (try simp only [← Array.append_assoc]); repeat (first | (with_reducible exact Grew.same_o) | (with_reducible exact Grew.refl _) | (with_reducible assumption) | (with_reducible refine Grew.alloc ?_ _) | (with_reducible refine Grew.app_r ?_) | ((with_reducible refine Grew.setCell ?_ ?_ _); rotate_left; (focus (dsimp only; first | omega | (simp only [size_ext, World.size_alloc, Array.size_append]; omega)))) | (with_reducible refine Grew.ext ?_ _ _) | (with_reducible refine Grew.drewN ?_ _) | (with_reducible refine Grew.drew ?_))))
  have hvU := hvV.grew gU
  have hDU := hDV.grew gU
  have hXU := hXV.grew gU
  have hYU := hYV.grew gU
  have t3 := (Z3.grew gU).cell
  have l3 := (Z3.grew gU).lt
  have t7 := (Z7.grew gU).cell
  have l7 := (Z7.grew gU).lt
  have t8 := Z8.cell
  have l8 := Z8.lt
  have Z3U := Z3.grew gU
  have hg46 : ∀ w', Grew U w' → Calls Try.prog 46 #[.agg #[.slice (some ⟨k, 0, none⟩) (R * C) (R * C), .int .i64 0, .int .i64 R, .int .i64 C, .int .i64 LD]] w' (fun e w2 => e = .returned (.bool true) ∧ ∃ o n, w2 = ext w' o n) := fun w' g => (HXY.out L lL.out hnum.out k w' (hFU.grew g)).1
  have hg48 := fun w' g => (HXY.out L lL.out hnum.out k w' (hFU.grew (w' := w') g)).2
  simp only [← hp8]
  clear hU hp8 hF HXY hsc hk
  go_upto_region 15 with (first | (go_at_call 111; ((with_reducible refine (hex _ _ _ (hvU.grew (by (show Grew _ _; (try simp only [← Array.append_assoc]); repeat (first | (with_reducible exact Grew.same_o) | (with_reducible exact Grew.refl _) | (with_reducible assumption) | (with_reducible refine Grew.alloc ?_ _) | (with_reducible refine Grew.app_r ?_) | ((with_reducible refine Grew.setCell ?_ ?_ _); rotate_left; (focus (dsimp only; first | omega | (simp only [size_ext, World.size_alloc, Array.size_append]; omega)))) | (with_reducible refine Grew.ext ?_ _ _) | (with_reducible refine Grew.drewN ?_ _) | (with_reducible refine Grew.drew ?_))))) (hXU.grew (by (show Grew _ _; (try simp only [← Array.append_assoc]); repeat (first | (with_reducible exact Grew.same_o) | (with_reducible exact Grew.refl _) | (with_reducible assumption) | (with_reducible refine Grew.alloc ?_ _) | (with_reducible refine Grew.app_r ?_) | ((with_reducible refine Grew.setCell ?_ ?_ _); rotate_left; (focus (dsimp only; first | omega | (simp only [size_ext, World.size_alloc, Array.size_append]; omega)))) | (with_reducible refine Grew.ext ?_ _ _) | (with_reducible refine Grew.drewN ?_ _) | (with_reducible refine Grew.drew ?_))))) (hYU.grew (by (show Grew _ _; (try simp only [← Array.append_assoc]); repeat (first | (with_reducible exact Grew.same_o) | (with_reducible exact Grew.refl _) | (with_reducible assumption) | (with_reducible refine Grew.alloc ?_ _) | (with_reducible refine Grew.app_r ?_) | ((with_reducible refine Grew.setCell ?_ ?_ _); rotate_left; (focus (dsimp only; first | omega | (simp only [size_ext, World.size_alloc, Array.size_append]; omega)))) | (with_reducible refine Grew.ext ?_ _ _) | (with_reducible refine Grew.drewN ?_ _) | (with_reducible refine Grew.drew ?_)))))).mono ?_); rintro e w1 ⟨b, rfl, hb, o5, n5, rfl⟩)) | (go_at_call 47; ((with_reducible refine (hall _ _ _ (hvU.grew (by (show Grew _ _; (try simp only [← Array.append_assoc]); repeat (first | (with_reducible exact Grew.same_o) | (with_reducible exact Grew.refl _) | (with_reducible assumption) | (with_reducible refine Grew.alloc ?_ _) | (with_reducible refine Grew.app_r ?_) | ((with_reducible refine Grew.setCell ?_ ?_ _); rotate_left; (focus (dsimp only; first | omega | (simp only [size_ext, World.size_alloc, Array.size_append]; omega)))) | (with_reducible refine Grew.ext ?_ _ _) | (with_reducible refine Grew.drewN ?_ _) | (with_reducible refine Grew.drew ?_))))) (hDU.grew (by (show Grew _ _; (try simp only [← Array.append_assoc]); repeat (first | (with_reducible exact Grew.same_o) | (with_reducible exact Grew.refl _) | (with_reducible assumption) | (with_reducible refine Grew.alloc ?_ _) | (with_reducible refine Grew.app_r ?_) | ((with_reducible refine Grew.setCell ?_ ?_ _); rotate_left; (focus (dsimp only; first | omega | (simp only [size_ext, World.size_alloc, Array.size_append]; omega)))) | (with_reducible refine Grew.ext ?_ _ _) | (with_reducible refine Grew.drewN ?_ _) | (with_reducible refine Grew.drew ?_)))))).mono ?_); rintro e w1 ⟨rfl, o6, n6, rfl⟩)) | (go_at_call 46; ((with_reducible refine (hgd _ (hDU.grew (by (show Grew _ _; (try simp only [← Array.append_assoc]); repeat (first | (with_reducible exact Grew.same_o) | (with_reducible exact Grew.refl _) | (with_reducible assumption) | (with_reducible refine Grew.alloc ?_ _) | (with_reducible refine Grew.app_r ?_) | ((with_reducible refine Grew.setCell ?_ ?_ _); rotate_left; (focus (dsimp only; first | omega | (simp only [size_ext, World.size_alloc, Array.size_append]; omega)))) | (with_reducible refine Grew.ext ?_ _ _) | (with_reducible refine Grew.drewN ?_ _) | (with_reducible refine Grew.drew ?_)))))).mono ?_); rintro e w1 ⟨rfl, o7, n7, rfl⟩)) | (go_at_call 48; ((with_reducible refine (hof _ (hDU.grew (by (show Grew _ _; (try simp only [← Array.append_assoc]); repeat (first | (with_reducible exact Grew.same_o) | (with_reducible exact Grew.refl _) | (with_reducible assumption) | (with_reducible refine Grew.alloc ?_ _) | (with_reducible refine Grew.app_r ?_) | ((with_reducible refine Grew.setCell ?_ ?_ _); rotate_left; (focus (dsimp only; first | omega | (simp only [size_ext, World.size_alloc, Array.size_append]; omega)))) | (with_reducible refine Grew.ext ?_ _ _) | (with_reducible refine Grew.drewN ?_ _) | (with_reducible refine Grew.drew ?_)))))).mono ?_); rintro e w1 ⟨ta, tc, rfl, hto, o8, n8, rfl⟩; (try simp only [drew_ext, drewN_ext, ext_ext, Array.append_assoc] at hto))))
  refine name_any (fun X hX => ?_)
  obtain ⟨p11, hp11⟩ : ∃ p, p = U.heap.size + (o5.size + (o6.size + (o7.size + o8.size))) := ⟨_, rfl⟩
  have gX : Grew U X := by rw [← hX]; (show Grew _ _; (try simp only [← Array.append_assoc]); repeat (first | (with_reducible exact Grew.same_o) | (with_reducible exact Grew.refl _) | (with_reducible assumption) | (with_reducible refine Grew.alloc ?_ _) | (with_reducible refine Grew.app_r ?_) | ((with_reducible refine Grew.setCell ?_ ?_ _); rotate_left; (focus (dsimp only; first | omega | (simp only [size_ext, World.size_alloc, Array.size_append]; omega)))) | (with_reducible refine Grew.ext ?_ _ _) | (with_reducible refine Grew.drewN ?_ _) | (with_reducible refine Grew.drew ?_)))
  have gwX := Grew.trans gwU gX
  have Z11 : Box X p11 #[.int .i64 R, .int .i64 C, .slice ta TX.length tc] := by rw [← hX]; exact Box.new' (by rw [hp11]; simp only [size_ext, Array.size_append])
  have htX : FS X (.slice ta TX.length tc) TX := by rw [← hX]; exact hto.grew (by (show Grew _ _; (try simp only [← Array.append_assoc]); repeat (first | (with_reducible exact Grew.same_o) | (with_reducible exact Grew.refl _) | (with_reducible assumption) | (with_reducible refine Grew.alloc ?_ _) | (with_reducible refine Grew.app_r ?_) | ((with_reducible refine Grew.setCell ?_ ?_ _); rotate_left; (focus (dsimp only; first | omega | (simp only [size_ext, World.size_alloc, Array.size_append]; omega)))) | (with_reducible refine Grew.ext ?_ _ _) | (with_reducible refine Grew.drewN ?_ _) | (with_reducible refine Grew.drew ?_))))
  have hXX := hXU.grew gX
  have hYX := hYU.grew gX
  have t3 := (Z3U.grew gX).cell
  have l3 := (Z3U.grew gX).lt
  have t8 := (Z8.grew gX).cell
  have l8 := (Z8.grew gX).lt
  have t11 := Z11.cell
  have l11 := Z11.lt
  have hg46 := fun w' g => hg46 w' (Grew.trans gX g)
  have hg48 := fun w' g => hg48 w' (Grew.trans gX g)
  have hal : ∀ a c a' c' (T T' : List Nat) w', T = T' → FS w' (.slice a T.length c) T → FS w' (.slice a' T'.length c') T' → Calls Try.prog 47 #[.slice a T.length c, .slice a' T'.length c'] w' (fun e w2 => e = .returned (.bool true) ∧ ∃ o n, w2 = ext w' o n) := fun a c a' c' T T' w' h h1 h2 => by
    have := all_any _ _ T T' w' h1 h2; rw [decide_eq_true h] at this; exact this
  simp only [← hp11]
  clear hX hp11 hto t7 l7 hex hall hgd hof
  have hfd : ∀ (v1 v2 v3 : Value) (w' : World), (Instr.field 51 (.agg #[v1, v2, v3]) 2).run Try.prog w' = .ok v3 w' := fun _ _ _ _ => by kernel_rfl
  refine wp_region_R (Grew X) [] [(0,0), (0,1), (0,2), (0,3), (1,4), (0,5), (0,6), (0,7), (0,8), (0,9), (0,10), (0,11), (0,12), (0,13), (0,14), (0,15), (0,16), (0,17), (0,18), (0,19), (0,20), (0,21), (0,22), (0,25), (0,26), (0,27), (1,23), (0,24), (1,28), (0,29), (1,30), (0,31), (0,32)] (by kernel_rfl) (by kernel_rfl) (fun _ _ _ _ h _ => h) (by first | exact ⟨_, _, ext_drew⟩ | exact ⟨_, _, drew_ext0⟩ | (show Grew _ _; repeat (first | (with_reducible exact Grew.refl _) | (with_reducible assumption) | (with_reducible exact Grew.same_o) | (with_reducible exact Grew.app_o) | (with_reducible refine Grew.ext ?_ _ _) | (with_reducible refine Grew.alloc ?_ _) | ((with_reducible refine Grew.setCell ?_ ?_ _); rotate_left; (focus (dsimp only; first | omega | (simp only [size_ext, World.size_alloc, Array.size_append]; omega)))) | (with_reducible refine Grew.drewN ?_ _) | (with_reducible refine Grew.drew ?_)))) ?_
  go_wp2_with (first | ((with_reducible refine wpR_id ?_); first | (refine wpR_take (v := ?_) rfl rfl ?_ ?_; rotate_left; (focus (rintro w' ⟨o', n', rfl⟩; go_simp; try with_reducible rfl)); simp only [Act.put, List.setIfInBounds_toArray, List.set_cons_zero, List.set_cons_succ]) | (refine wpR_pure (v := ?_) rfl rfl ?_ ?_; rotate_left; (focus (intro w'; go_simp; try with_reducible rfl)); simp only [Act.put, List.setIfInBounds_toArray, List.set_cons_zero, List.set_cons_succ]) | (refine wpR_takeG (v := ?_) rfl rfl rfl rfl rfl ?_ ?_; rotate_left; (focus (rintro w' ⟨o', n', rfl⟩; go_simp; try with_reducible rfl)); simp only [Act.put, List.setIfInBounds_toArray, List.set_cons_zero, List.set_cons_succ]) | (refine wpR_skip rfl rfl rfl rfl rfl rfl ?_; simp only [Act.put, List.setIfInBounds_toArray, List.set_cons_zero, List.set_cons_succ]) | (refine wpR_skipU rfl rfl rfl rfl rfl ?_; simp only [Act.put, List.setIfInBounds_toArray, List.set_cons_zero, List.set_cons_succ]) | (refine wpR_do rfl rfl (fun K hK => ?_)) | (refine wpR_doG rfl rfl rfl rfl rfl (fun K hK => ?_)) | (refine wpR_last rfl rfl (fun K hK => ?_)) | (refine wpR_nil ?_)) | ((with_reducible refine wpR_go ?_ ?_); (focus (show Grew _ _; repeat (first | (with_reducible exact Grew.refl _) | (with_reducible assumption) | (with_reducible exact Grew.same_o) | (with_reducible exact Grew.app_o) | (with_reducible refine Grew.ext ?_ _ _) | (with_reducible refine Grew.alloc ?_ _) | ((with_reducible refine Grew.setCell ?_ ?_ _); rotate_left; (focus (dsimp only; first | omega | (simp only [size_ext, World.size_alloc, Array.size_append]; omega)))) | (with_reducible refine Grew.drewN ?_ _) | (with_reducible refine Grew.drew ?_))))) | ((with_reducible refine upon_id ?_); refine upon_fop rfl (by assumption) (by assumption) ?_; intro rr nn hr) | (go_at_call 46; ((with_reducible refine (hg46 _ (by (show Grew _ _; (try simp only [← Array.append_assoc]); repeat (first | (with_reducible exact Grew.same_o) | (with_reducible exact Grew.refl _) | (with_reducible assumption) | (with_reducible refine Grew.alloc ?_ _) | (with_reducible refine Grew.app_r ?_) | ((with_reducible refine Grew.setCell ?_ ?_ _); rotate_left; (focus (dsimp only; first | omega | (simp only [size_ext, World.size_alloc, Array.size_append]; omega)))) | (with_reducible refine Grew.ext ?_ _ _) | (with_reducible refine Grew.drewN ?_ _) | (with_reducible refine Grew.drew ?_))))).mono ?_); rintro e w1 ⟨rfl, o9, n9, rfl⟩)) | (go_at_call 48; ((with_reducible refine (hg48 _ (by (show Grew _ _; (try simp only [← Array.append_assoc]); repeat (first | (with_reducible exact Grew.same_o) | (with_reducible exact Grew.refl _) | (with_reducible assumption) | (with_reducible refine Grew.alloc ?_ _) | (with_reducible refine Grew.app_r ?_) | ((with_reducible refine Grew.setCell ?_ ?_ _); rotate_left; (focus (dsimp only; first | omega | (simp only [size_ext, World.size_alloc, Array.size_append]; omega)))) | (with_reducible refine Grew.ext ?_ _ _) | (with_reducible refine Grew.drewN ?_ _) | (with_reducible refine Grew.drew ?_))))).mono ?_); rintro e w1 ⟨ya, yc, TY, rfl, hty, hTY, o10, n10, rfl⟩; (try simp only [drew_ext, drewN_ext, ext_ext, Array.append_assoc] at hty))) | (go_at_call 112; ((with_reducible refine (hrs _ _ _ (htX.grew (by (show Grew _ _; (try simp only [← Array.append_assoc]); repeat (first | (with_reducible exact Grew.same_o) | (with_reducible exact Grew.refl _) | (with_reducible assumption) | (with_reducible refine Grew.alloc ?_ _) | (with_reducible refine Grew.app_r ?_) | ((with_reducible refine Grew.setCell ?_ ?_ _); rotate_left; (focus (dsimp only; first | omega | (simp only [size_ext, World.size_alloc, Array.size_append]; omega)))) | (with_reducible refine Grew.ext ?_ _ _) | (with_reducible refine Grew.drewN ?_ _) | (with_reducible refine Grew.drew ?_))))) (hXX.grew (by (show Grew _ _; (try simp only [← Array.append_assoc]); repeat (first | (with_reducible exact Grew.same_o) | (with_reducible exact Grew.refl _) | (with_reducible assumption) | (with_reducible refine Grew.alloc ?_ _) | (with_reducible refine Grew.app_r ?_) | ((with_reducible refine Grew.setCell ?_ ?_ _); rotate_left; (focus (dsimp only; first | omega | (simp only [size_ext, World.size_alloc, Array.size_append]; omega)))) | (with_reducible refine Grew.ext ?_ _ _) | (with_reducible refine Grew.drewN ?_ _) | (with_reducible refine Grew.drew ?_))))) (hYX.grew (by (show Grew _ _; (try simp only [← Array.append_assoc]); repeat (first | (with_reducible exact Grew.same_o) | (with_reducible exact Grew.refl _) | (with_reducible assumption) | (with_reducible refine Grew.alloc ?_ _) | (with_reducible refine Grew.app_r ?_) | ((with_reducible refine Grew.setCell ?_ ?_ _); rotate_left; (focus (dsimp only; first | omega | (simp only [size_ext, World.size_alloc, Array.size_append]; omega)))) | (with_reducible refine Grew.ext ?_ _ _) | (with_reducible refine Grew.drewN ?_ _) | (with_reducible refine Grew.drew ?_)))))).mono ?_); rintro e w1 ⟨sa, sc, TS, rfl, hts, lS, hS, o11, n11, rfl⟩; (try simp only [drew_ext, drewN_ext, ext_ext, Array.append_assoc] at hts))) | (go_at_call 47; ((with_reducible refine (hal _ _ _ _ _ _ _ (hTY.out _ lS.out hS.out) (hty.grew (by (show Grew _ _; (try simp only [← Array.append_assoc]); repeat (first | (with_reducible exact Grew.same_o) | (with_reducible exact Grew.refl _) | (with_reducible assumption) | (with_reducible refine Grew.alloc ?_ _) | (with_reducible refine Grew.app_r ?_) | ((with_reducible refine Grew.setCell ?_ ?_ _); rotate_left; (focus (dsimp only; first | omega | (simp only [size_ext, World.size_alloc, Array.size_append]; omega)))) | (with_reducible refine Grew.ext ?_ _ _) | (with_reducible refine Grew.drewN ?_ _) | (with_reducible refine Grew.drew ?_))))) (hts.grew (by (show Grew _ _; (try simp only [← Array.append_assoc]); repeat (first | (with_reducible exact Grew.same_o) | (with_reducible exact Grew.refl _) | (with_reducible assumption) | (with_reducible refine Grew.alloc ?_ _) | (with_reducible refine Grew.app_r ?_) | ((with_reducible refine Grew.setCell ?_ ?_ _); rotate_left; (focus (dsimp only; first | omega | (simp only [size_ext, World.size_alloc, Array.size_append]; omega)))) | (with_reducible refine Grew.ext ?_ _ _) | (with_reducible refine Grew.drewN ?_ _) | (with_reducible refine Grew.drew ?_)))))).mono ?_); rintro e w1 ⟨rfl, o12, n12, rfl⟩)))
  clear hfd
  have hrl : rs.length ≤ 64 := by rw [HLR.out]; omega
  have hcl : cs.length ≤ 64 := by rw [HLC.out]; omega
  refine name_any (fun Q hQ => ?_)
  have gQ : Grew X Q := by rw [← hQ]; (show Grew _ _; (try simp only [← Array.append_assoc]); repeat (first | (with_reducible exact Grew.same_o) | (with_reducible exact Grew.refl _) | (with_reducible assumption) | (with_reducible refine Grew.alloc ?_ _) | (with_reducible refine Grew.app_r ?_) | ((with_reducible refine Grew.setCell ?_ ?_ _); rotate_left; (focus (dsimp only; first | omega | (simp only [size_ext, World.size_alloc, Array.size_append]; omega)))) | (with_reducible refine Grew.ext ?_ _ _) | (with_reducible refine Grew.drewN ?_ _) | (with_reducible refine Grew.drew ?_)))
  have gwQ := Grew.trans gwX gQ
  have hXQ := hXX.grew gQ
  have hYQ := hYX.grew gQ
  have htQ := htX.grew gQ
  have t11 := (Z11.grew gQ).cell
  have l11 := (Z11.grew gQ).lt
  have Z11Q := Z11.grew gQ
  have hbb : (b == b) = true := by cases b <;> rfl
  clear hQ hal hg46 hg48 hrs hty hts hTY lS hS t3 l3 t8 l8 htX hXX hYX d1 d2 d3 d4
  go_loopw [6, 12] (fun s c wr => ∃ (i : Nat), i ≤ rs.length ∧ s = .bool false ∧ c = .int .i64 i ∧ Grew Q wr ∧ Hid (∀ a, a < i → -10000 ≤ rs.getD a 0 ∧ rs.getD a 0 ≤ 10000)) (fun _ c _ => rs.length - (intOf c).toNat)
  case atStart => exact ⟨0, Nat.zero_le _, rfl, rfl, Grew.refl _, hid fun a h => absurd h (Nat.not_lt_zero _)⟩
  case round =>
    obtain ⟨i, hi, rfl, rfl, gr, hT1⟩ := hrel
    by_cases hil : i < rs.length
    · obtain ⟨bx, ox, hax, hkx, hcx⟩ := hXQ.at.2 (by omega)
      have hrx := hcx i hil
      subst hax
      obtain ⟨z, hz⟩ : ∃ z, z = rs.getD i 0 := ⟨_, rfl⟩
      rw [← hz] at hrx
      have crx := (gr.cell hkx).trans hrx
      have kx := Nat.lt_of_lt_of_le hkx gr.below.size
      have HZ := hid hz
      clear hcx hrx hz
      by_cases h1 : 10000 < z
      · have e1 : decide ((10000 : Int) < z) = true := decide_eq_true h1
        clear h1
        go_wp2_with (first | (go_at_call 101; ((with_reducible refine (awake15 _).mono ?_); rintro e w9 ⟨rfl, o9, n9, rfl⟩)))
        go_ret
        exact ⟨rfl, Grew.trans gwQ (Grew.trans gr (by (show Grew _ _; (try simp only [← Array.append_assoc]); repeat (first | (with_reducible exact Grew.same_o) | (with_reducible exact Grew.refl _) | (with_reducible assumption) | (with_reducible refine Grew.alloc ?_ _) | (with_reducible refine Grew.app_r ?_) | ((with_reducible refine Grew.setCell ?_ ?_ _); rotate_left; (focus (dsimp only; first | omega | (simp only [size_ext, World.size_alloc, Array.size_append]; omega)))) | (with_reducible refine Grew.ext ?_ _ _) | (with_reducible refine Grew.drewN ?_ _) | (with_reducible refine Grew.drew ?_)))))⟩
      · have e1 : decide ((10000 : Int) < z) = false := decide_eq_false h1
        by_cases h2 : z < -10000
        · have e2 : decide (z < (-10000 : Int)) = true := decide_eq_true h2
          clear h1 h2
          go_wp2_with (first | (go_at_call 101; ((with_reducible refine (awake15 _).mono ?_); rintro e w9 ⟨rfl, o9, n9, rfl⟩)))
          go_ret
          exact ⟨rfl, Grew.trans gwQ (Grew.trans gr (by (show Grew _ _; (try simp only [← Array.append_assoc]); repeat (first | (with_reducible exact Grew.same_o) | (with_reducible exact Grew.refl _) | (with_reducible assumption) | (with_reducible refine Grew.alloc ?_ _) | (with_reducible refine Grew.app_r ?_) | ((with_reducible refine Grew.setCell ?_ ?_ _); rotate_left; (focus (dsimp only; first | omega | (simp only [size_ext, World.size_alloc, Array.size_append]; omega)))) | (with_reducible refine Grew.ext ?_ _ _) | (with_reducible refine Grew.drewN ?_ _) | (with_reducible refine Grew.drew ?_)))))⟩
        · have e2 : decide (z < (-10000 : Int)) = false := decide_eq_false h2
          have HB := hid (show -10000 ≤ z ∧ z ≤ 10000 by omega)
          clear h1 h2
          go_wp2
          go_roundw
          case rel => exact ⟨i + 1, hil, rfl, by go_num, Grew.trans gr (by (show Grew _ _; (try simp only [← Array.append_assoc]); repeat (first | (with_reducible exact Grew.same_o) | (with_reducible exact Grew.refl _) | (with_reducible assumption) | (with_reducible refine Grew.alloc ?_ _) | (with_reducible refine Grew.app_r ?_) | ((with_reducible refine Grew.setCell ?_ ?_ _); rotate_left; (focus (dsimp only; first | omega | (simp only [size_ext, World.size_alloc, Array.size_append]; omega)))) | (with_reducible refine Grew.ext ?_ _ _) | (with_reducible refine Grew.drewN ?_ _) | (with_reducible refine Grew.drew ?_)))), hid fun a ha => by
            by_cases h : a < i
            · exact hT1.out a h
            · have e : a = i := by omega
              subst e; rw [← HZ.out]; exact HB.out⟩
          case measure => simp [intOf]; omega
    · have e : i = rs.length := by omega
      subst e
      go_wp2
      go_loopw [6, 13] (fun s c wr => ∃ (i : Nat), i ≤ cs.length ∧ s = .bool false ∧ c = .int .i64 i ∧ Grew Q wr ∧ Hid (∀ a, a < i → -10000 ≤ cs.getD a 0 ∧ cs.getD a 0 ≤ 10000)) (fun _ c _ => cs.length - (intOf c).toNat)
      case atStart => exact ⟨0, Nat.zero_le _, rfl, rfl, gr, hid fun a h => absurd h (Nat.not_lt_zero _)⟩
      case round =>
        obtain ⟨i, hi, rfl, rfl, gr, hT2⟩ := hrel
        by_cases hil : i < cs.length
        · obtain ⟨bx, ox, hax, hkx, hcx⟩ := hYQ.at.2 (by omega)
          have hrx := hcx i hil
          subst hax
          obtain ⟨z, hz⟩ : ∃ z, z = cs.getD i 0 := ⟨_, rfl⟩
          rw [← hz] at hrx
          have crx := (gr.cell hkx).trans hrx
          have kx := Nat.lt_of_lt_of_le hkx gr.below.size
          have HZ := hid hz
          clear hcx hrx hz
          by_cases h1 : 10000 < z
          · have e1 : decide ((10000 : Int) < z) = true := decide_eq_true h1
            clear h1
            go_wp2_with (first | (go_at_call 101; ((with_reducible refine (awake15 _).mono ?_); rintro e w9 ⟨rfl, o9, n9, rfl⟩)))
            go_ret
            exact ⟨rfl, Grew.trans gwQ (Grew.trans gr (by (show Grew _ _; (try simp only [← Array.append_assoc]); repeat (first | (with_reducible exact Grew.same_o) | (with_reducible exact Grew.refl _) | (with_reducible assumption) | (with_reducible refine Grew.alloc ?_ _) | (with_reducible refine Grew.app_r ?_) | ((with_reducible refine Grew.setCell ?_ ?_ _); rotate_left; (focus (dsimp only; first | omega | (simp only [size_ext, World.size_alloc, Array.size_append]; omega)))) | (with_reducible refine Grew.ext ?_ _ _) | (with_reducible refine Grew.drewN ?_ _) | (with_reducible refine Grew.drew ?_)))))⟩
          · have e1 : decide ((10000 : Int) < z) = false := decide_eq_false h1
            by_cases h2 : z < -10000
            · have e2 : decide (z < (-10000 : Int)) = true := decide_eq_true h2
              clear h1 h2
              go_wp2_with (first | (go_at_call 101; ((with_reducible refine (awake15 _).mono ?_); rintro e w9 ⟨rfl, o9, n9, rfl⟩)))
              go_ret
              exact ⟨rfl, Grew.trans gwQ (Grew.trans gr (by (show Grew _ _; (try simp only [← Array.append_assoc]); repeat (first | (with_reducible exact Grew.same_o) | (with_reducible exact Grew.refl _) | (with_reducible assumption) | (with_reducible refine Grew.alloc ?_ _) | (with_reducible refine Grew.app_r ?_) | ((with_reducible refine Grew.setCell ?_ ?_ _); rotate_left; (focus (dsimp only; first | omega | (simp only [size_ext, World.size_alloc, Array.size_append]; omega)))) | (with_reducible refine Grew.ext ?_ _ _) | (with_reducible refine Grew.drewN ?_ _) | (with_reducible refine Grew.drew ?_)))))⟩
            · have e2 : decide (z < (-10000 : Int)) = false := decide_eq_false h2
              have HB := hid (show -10000 ≤ z ∧ z ≤ 10000 by omega)
              clear h1 h2
              go_wp2
              go_roundw
              case rel => exact ⟨i + 1, hil, rfl, by go_num, Grew.trans gr (by (show Grew _ _; (try simp only [← Array.append_assoc]); repeat (first | (with_reducible exact Grew.same_o) | (with_reducible exact Grew.refl _) | (with_reducible assumption) | (with_reducible refine Grew.alloc ?_ _) | (with_reducible refine Grew.app_r ?_) | ((with_reducible refine Grew.setCell ?_ ?_ _); rotate_left; (focus (dsimp only; first | omega | (simp only [size_ext, World.size_alloc, Array.size_append]; omega)))) | (with_reducible refine Grew.ext ?_ _ _) | (with_reducible refine Grew.drewN ?_ _) | (with_reducible refine Grew.drew ?_)))), hid fun a ha => by
                by_cases h : a < i
                · exact hT2.out a h
                · have e : a = i := by omega
                  subst e; rw [← HZ.out]; exact HB.out⟩
              case measure => simp [intOf]; omega
        · have e : i = cs.length := by omega
          subst e
          have t11 := (Z11Q.grew gr).cell
          have l11 := (Z11Q.grew gr).lt
          have hrx := fun w' (g : Grew Q w') => HRX.out b hb.out (fun k hk => hT1.out k (by rw [HLR.out]; exact hk)) (fun k hk => hT2.out k (by rw [HLC.out]; exact hk)) ta tc w' (htQ.grew g) (hXQ.grew g) (hYQ.grew g)
          go_wp2_with (first | (go_at_call 113; ((with_reducible refine (hrx _ (Grew.trans gr (by (show Grew _ _; (try simp only [← Array.append_assoc]); repeat (first | (with_reducible exact Grew.same_o) | (with_reducible exact Grew.refl _) | (with_reducible assumption) | (with_reducible refine Grew.alloc ?_ _) | (with_reducible refine Grew.app_r ?_) | ((with_reducible refine Grew.setCell ?_ ?_ _); rotate_left; (focus (dsimp only; first | omega | (simp only [size_ext, World.size_alloc, Array.size_append]; omega)))) | (with_reducible refine Grew.ext ?_ _ _) | (with_reducible refine Grew.drewN ?_ _) | (with_reducible refine Grew.drew ?_)))))).mono ?_); rintro e w1 ⟨rfl, o13, n13, rfl⟩)) | (go_at_call 101; ((with_reducible refine (awake15 _).mono ?_); rintro e w9 ⟨rfl, o9, n9, rfl⟩)))
          go_ret
          exact ⟨rfl, Grew.trans gwQ (Grew.trans gr (by (show Grew _ _; (try simp only [← Array.append_assoc]); repeat (first | (with_reducible exact Grew.same_o) | (with_reducible exact Grew.refl _) | (with_reducible assumption) | (with_reducible refine Grew.alloc ?_ _) | (with_reducible refine Grew.app_r ?_) | ((with_reducible refine Grew.setCell ?_ ?_ _); rotate_left; (focus (dsimp only; first | omega | (simp only [size_ext, World.size_alloc, Array.size_append]; omega)))) | (with_reducible refine Grew.ext ?_ _ _) | (with_reducible refine Grew.drewN ?_ _) | (with_reducible refine Grew.drew ?_)))))⟩
set_option maxRecDepth 100000 in
theorem equilScales_any (x : MatM) (D VR : Value) (rs : List Int) (VC : Value) (cs : List Int) (w : World) (hD : FS w D x.ws) (hwf : x.wf) (hVR : IS .i64 w VR rs) (hr0 : ∀ z ∈ rs, IntKind.min .i64 ≤ z ∧ z ≤ IntKind.max .i64) (hVC : IS .i64 w VC cs) (hc0 : ∀ z ∈ cs, IntKind.min .i64 ≤ z ∧ z ≤ IntKind.max .i64) :
   Calls Try.prog 22 #[.agg #[D, .int .i64 x.off, .int .i64 x.rows, .int .i64 x.cols, .int .i64 x.ld], VR, VC] w (fun e w' => e = .returned (.bool true) ∧ ∃ o n, w' = ext w o n) := by
  clear hr0 hc0
  obtain ⟨aD, cD, rfl⟩ := hD.shape
  obtain ⟨aR, cR, rfl⟩ := hVR.shape
  obtain ⟨aC, cC, rfl⟩ := hVC.shape
  by_cases h0 : MatM.great x = true ∨ 60 < rs.length ∨ 60 < cs.length
  · exact sca_great x aD cD aR aC cR cC rs cs w hD hwf hVR hVC h0
  · have hg : MatM.great x = false := by cases h : MatM.great x; rfl; exact absurd (.inl h) h0
    have h1 : ¬ 60 < rs.length := fun h => h0 (.inr (.inl h))
    have h2 : ¬ 60 < cs.length := fun h => h0 (.inr (.inr h))
    have hll : x.ws.length ≤ 1000 ∧ x.rows ≤ 20 ∧ x.cols ≤ 20 := by
      have hg2 := hg
      unfold MatM.great at hg2
      simp only [Bool.or_eq_false_iff, decide_eq_false_iff_not] at hg2
      omega
    cases hgo : x.good
    · exact sca_bad x aD cD aR aC cR cC rs cs w hD hwf hVR hVC hg hll.1 h1 h2 hgo
    · have hn := MatM.good_n hgo
      by_cases hs : (rs.length : Int) = x.rows ∧ (cs.length : Int) = x.cols
      · exact sca_main x aD cD aR aC cR cC rs cs w hD hwf hVR hVC rs.length cs.length hs.1.symm hs.2.symm rfl rfl hg hll.1 (by omega) (by omega) hgo
      · exact sca_sz x aD cD aR aC cR cC rs cs w hD hwf hVR hVC hg hll.1 h1 h2 hgo hs
end Go.Proofs.Ytcmggfpcbijcjaa
end
section
/-
  The dump's head as a list of signs, laid by their numbers: the kernel reckons on such a list, not on the text.
-/
set_option linter.unusedSimpArgs false
set_option linter.unusedVariables false
namespace Go.Proofs.Ytcmggfpcbijcjaa
theorem may_cut {P : Program} {c : List Char} {rest : List (List Char)} (h : behindMainWord (wordsSigns P.initOrder.toList) = c :: rest) (hs : stripLifts liftWords (c :: rest) = ([], c :: rest))
    (hc : (c == "cut".toList) = true) (hl : P.laysLater = false) (hr : P.bearsReflect = false) (hd : P.doorFits [] = true) : P.mayEnter = true := by
  have hc' : c = "cut".toList := by simpa using hc
  unfold Program.mayEnter
  rw [h]
  simp only [hs, hl, hr, hd, List.head?_cons, List.contains_nil, Bool.false_or, Bool.not_false, Bool.and_true, Bool.or_true]
  rw [hc']
  simp
theorem final_cut {P : Program} {c : List Char} {rest : List (List Char)} (h : behindMainWord (wordsSigns P.initOrder.toList) = c :: rest) (hs : stripLifts liftWords (c :: rest) = ([], c :: rest))
    (hc : (c == "carried".toList) = false) : P.liftsFinal = false := by
  unfold Program.liftsFinal Program.headLifts
  simp only [h, hs, List.head?_cons, List.contains_nil, ite_self, Bool.or_false]
  have : (some c == some "carried".toList) = false := by simpa using hc
  rw [this]
  rfl
theorem make_cut {P : Program} {c : List Char} {rest : List (List Char)} (h : behindMainWord (wordsSigns P.initOrder.toList) = c :: rest)
    (h1 : (c == "gc".toList || c == "spec".toList) = false) (h2 : (c == "cut".toList) = true) : P.make = some .cut := by
  unfold Program.make
  rw [h]
  simp only [h1, h2, Bool.true_or, Bool.false_eq_true, if_false, if_true]
def headCodes : List Nat := [
  104, 97, 114, 110, 101, 115, 115, 32, 51, 102, 52, 100, 97, 51, 56, 49, 53, 101, 98, 97, 49, 97, 55, 99, 97, 51, 97, 53, 57, 98, 51, 57, 53, 55, 97, 97, 53, 56, 102, 57,
  54, 102, 100, 51, 48, 56, 99, 48, 99, 51, 57, 99, 54, 57, 56, 51, 57, 48, 54, 97, 99, 49, 97, 102, 48, 98, 102, 98, 49, 100, 49, 54, 32, 99, 117, 116, 32, 97, 116, 32,
  115, 116, 114, 97, 105, 103, 104, 116, 101, 100, 103, 101, 47, 115, 116, 114, 97, 105, 103, 104, 116, 101, 100, 103, 101, 108, 97, 119, 48, 54, 46, 65, 120, 101, 115, 67, 108, 111, 115, 101,
  32, 115, 116, 114, 97, 105, 103, 104, 116, 101, 100, 103, 101, 47, 115, 116, 114, 97, 105, 103, 104, 116, 101, 100, 103, 101, 108, 97, 119, 48, 53, 46, 83, 117, 109, 115, 76, 105, 115, 116,
  115, 32, 115, 116, 114, 97, 105, 103, 104, 116, 101, 100, 103, 101, 47, 115, 116, 114, 97, 105, 103, 104, 116, 101, 100, 103, 101, 108, 97, 119, 48, 52, 46, 77, 111, 118, 101, 82, 111, 119,
  115, 32, 115, 116, 114, 97, 105, 103, 104, 116, 101, 100, 103, 101, 47, 115, 116, 114, 97, 105, 103, 104, 116, 101, 100, 103, 101, 108, 97, 119, 48, 56, 46, 71, 101, 114, 84, 101, 108, 108,
  115, 32, 115, 116, 114, 97, 105, 103, 104, 116, 101, 100, 103, 101, 47, 115, 116, 114, 97, 105, 103, 104, 116, 101, 100, 103, 101, 108, 97, 119, 48, 52, 46, 77, 111, 118, 101, 86, 101, 99,
  116, 111, 114, 115, 32, 115, 116, 114, 97, 105, 103, 104, 116, 101, 100, 103, 101, 47, 115, 116, 114, 97, 105, 103, 104, 116, 101, 100, 103, 101, 108, 97, 119, 48, 55, 46, 71, 101, 109, 118,
  67, 108, 111, 115, 101, 32, 115, 116, 114, 97, 105, 103, 104, 116, 101, 100, 103, 101, 47, 115, 116, 114, 97, 105, 103, 104, 116, 101, 100, 103, 101, 108, 97, 119, 49, 49, 46, 71, 101, 109,
  109, 84, 101, 108, 108, 115, 32, 115, 116, 114, 97, 105, 103, 104, 116, 101, 100, 103, 101, 47, 115, 116, 114, 97, 105, 103, 104, 116, 101, 100, 103, 101, 108, 97, 119, 48, 57, 46, 84, 114,
  115, 118, 83, 111, 108, 118, 101, 115, 32, 115, 116, 114, 97, 105, 103, 104, 116, 101, 100, 103, 101, 47, 115, 116, 114, 97, 105, 103, 104, 116, 101, 100, 103, 101, 108, 97, 119, 48, 57, 46,
  84, 114, 115, 118, 66, 97, 99, 107, 119, 97, 114, 100, 32, 115, 116, 114, 97, 105, 103, 104, 116, 101, 100, 103, 101, 47, 115, 116, 114, 97, 105, 103, 104, 116, 101, 100, 103, 101, 108, 97,
  119, 48, 55, 46, 71, 101, 109, 118, 84, 117, 114, 110, 115, 32, 115, 116, 114, 97, 105, 103, 104, 116, 101, 100, 103, 101, 47, 115, 116, 114, 97, 105, 103, 104, 116, 101, 100, 103, 101, 108,
  97, 119, 48, 54, 46, 65, 120, 101, 115, 66, 97, 99, 107, 32, 115, 116, 114, 97, 105, 103, 104, 116, 101, 100, 103, 101, 47, 115, 116, 114, 97, 105, 103, 104, 116, 101, 100, 103, 101, 108,
  97, 119, 49, 49, 46, 71, 101, 109, 109, 87, 104, 111, 108, 101, 32, 115, 116, 114, 97, 105, 103, 104, 116, 101, 100, 103, 101, 47, 115, 116, 114, 97, 105, 103, 104, 116, 101, 100, 103, 101,
  108, 97, 119, 50, 50, 46, 82, 101, 115, 105, 100, 66, 111, 117, 110, 100, 115, 32, 115, 116, 114, 97, 105, 103, 104, 116, 101, 100, 103, 101, 47, 115, 116, 114, 97, 105, 103, 104, 116, 101,
  100, 103, 101, 108, 97, 119, 50, 50, 46, 82, 101, 115, 105, 100, 82, 101, 115, 116, 32, 115, 116, 114, 97, 105, 103, 104, 116, 101, 100, 103, 101, 47, 115, 116, 114, 97, 105, 103, 104, 116,
  101, 100, 103, 101, 108, 97, 119, 48, 54, 46, 65, 120, 101, 115, 83, 99, 97, 108, 101, 32, 115, 116, 114, 97, 105, 103, 104, 116, 101, 100, 103, 101, 47, 115, 116, 114, 97, 105, 103, 104,
  116, 101, 100, 103, 101, 108, 97, 119, 49, 53, 46, 69, 113, 117, 105, 108, 70, 97, 99, 116, 111, 114, 115, 32, 115, 116, 114, 97, 105, 103, 104, 116, 101, 100, 103, 101, 47, 115, 116, 114,
  97, 105, 103, 104, 116, 101, 100, 103, 101, 108, 97, 119, 50, 50, 46, 82, 101, 115, 105, 100, 84, 101, 108, 108, 115, 32, 115, 116, 114, 97, 105, 103, 104, 116, 101, 100, 103, 101, 47, 115,
  116, 114, 97, 105, 103, 104, 116, 101, 100, 103, 101, 108, 97, 119, 50, 50, 46, 82, 101, 115, 105, 100, 66, 97, 99, 107, 119, 97, 114, 100, 32, 115, 116, 114, 97, 105, 103, 104, 116, 101,
  100, 103, 101, 47, 115, 116, 114, 97, 105, 103, 104, 116, 101, 100, 103, 101, 108, 97, 119, 49, 53, 46, 69, 113, 117, 105, 108, 76, 105, 107, 101, 32, 115, 116, 114, 97, 105, 103, 104, 116,
  101, 100, 103, 101, 47, 115, 116, 114, 97, 105, 103, 104, 116, 101, 100, 103, 101, 108, 97, 119, 49, 53, 46, 69, 113, 117, 105, 108, 83, 99, 97, 108, 101, 115, 32, 115, 116, 114, 97, 105,
  103, 104, 116, 101, 100, 103, 101, 47, 115, 116, 114, 97, 105, 103, 104, 116, 101, 100, 103, 101, 108, 97, 119, 50, 48, 46, 76, 97, 99, 110, 66, 101, 108, 111, 119]
def headWords : List (List Nat) := [
  [104, 97, 114, 110, 101, 115, 115],
  [51, 102, 52, 100, 97, 51, 56, 49, 53, 101, 98, 97, 49, 97, 55, 99, 97, 51, 97, 53, 57, 98, 51, 57, 53, 55, 97, 97, 53, 56, 102, 57, 54, 102, 100, 51, 48, 56, 99, 48, 99, 51, 57, 99, 54, 57, 56, 51, 57, 48, 54, 97, 99, 49, 97, 102, 48, 98, 102, 98, 49, 100, 49, 54],
  [99, 117, 116],
  [97, 116],
  [115, 116, 114, 97, 105, 103, 104, 116, 101, 100, 103, 101, 47, 115, 116, 114, 97, 105, 103, 104, 116, 101, 100, 103, 101, 108, 97, 119, 48, 54, 46, 65, 120, 101, 115, 67, 108, 111, 115, 101],
  [115, 116, 114, 97, 105, 103, 104, 116, 101, 100, 103, 101, 47, 115, 116, 114, 97, 105, 103, 104, 116, 101, 100, 103, 101, 108, 97, 119, 48, 53, 46, 83, 117, 109, 115, 76, 105, 115, 116, 115],
  [115, 116, 114, 97, 105, 103, 104, 116, 101, 100, 103, 101, 47, 115, 116, 114, 97, 105, 103, 104, 116, 101, 100, 103, 101, 108, 97, 119, 48, 52, 46, 77, 111, 118, 101, 82, 111, 119, 115],
  [115, 116, 114, 97, 105, 103, 104, 116, 101, 100, 103, 101, 47, 115, 116, 114, 97, 105, 103, 104, 116, 101, 100, 103, 101, 108, 97, 119, 48, 56, 46, 71, 101, 114, 84, 101, 108, 108, 115],
  [115, 116, 114, 97, 105, 103, 104, 116, 101, 100, 103, 101, 47, 115, 116, 114, 97, 105, 103, 104, 116, 101, 100, 103, 101, 108, 97, 119, 48, 52, 46, 77, 111, 118, 101, 86, 101, 99, 116, 111, 114, 115],
  [115, 116, 114, 97, 105, 103, 104, 116, 101, 100, 103, 101, 47, 115, 116, 114, 97, 105, 103, 104, 116, 101, 100, 103, 101, 108, 97, 119, 48, 55, 46, 71, 101, 109, 118, 67, 108, 111, 115, 101],
  [115, 116, 114, 97, 105, 103, 104, 116, 101, 100, 103, 101, 47, 115, 116, 114, 97, 105, 103, 104, 116, 101, 100, 103, 101, 108, 97, 119, 49, 49, 46, 71, 101, 109, 109, 84, 101, 108, 108, 115],
  [115, 116, 114, 97, 105, 103, 104, 116, 101, 100, 103, 101, 47, 115, 116, 114, 97, 105, 103, 104, 116, 101, 100, 103, 101, 108, 97, 119, 48, 57, 46, 84, 114, 115, 118, 83, 111, 108, 118, 101, 115],
  [115, 116, 114, 97, 105, 103, 104, 116, 101, 100, 103, 101, 47, 115, 116, 114, 97, 105, 103, 104, 116, 101, 100, 103, 101, 108, 97, 119, 48, 57, 46, 84, 114, 115, 118, 66, 97, 99, 107, 119, 97, 114, 100],
  [115, 116, 114, 97, 105, 103, 104, 116, 101, 100, 103, 101, 47, 115, 116, 114, 97, 105, 103, 104, 116, 101, 100, 103, 101, 108, 97, 119, 48, 55, 46, 71, 101, 109, 118, 84, 117, 114, 110, 115],
  [115, 116, 114, 97, 105, 103, 104, 116, 101, 100, 103, 101, 47, 115, 116, 114, 97, 105, 103, 104, 116, 101, 100, 103, 101, 108, 97, 119, 48, 54, 46, 65, 120, 101, 115, 66, 97, 99, 107],
  [115, 116, 114, 97, 105, 103, 104, 116, 101, 100, 103, 101, 47, 115, 116, 114, 97, 105, 103, 104, 116, 101, 100, 103, 101, 108, 97, 119, 49, 49, 46, 71, 101, 109, 109, 87, 104, 111, 108, 101],
  [115, 116, 114, 97, 105, 103, 104, 116, 101, 100, 103, 101, 47, 115, 116, 114, 97, 105, 103, 104, 116, 101, 100, 103, 101, 108, 97, 119, 50, 50, 46, 82, 101, 115, 105, 100, 66, 111, 117, 110, 100, 115],
  [115, 116, 114, 97, 105, 103, 104, 116, 101, 100, 103, 101, 47, 115, 116, 114, 97, 105, 103, 104, 116, 101, 100, 103, 101, 108, 97, 119, 50, 50, 46, 82, 101, 115, 105, 100, 82, 101, 115, 116],
  [115, 116, 114, 97, 105, 103, 104, 116, 101, 100, 103, 101, 47, 115, 116, 114, 97, 105, 103, 104, 116, 101, 100, 103, 101, 108, 97, 119, 48, 54, 46, 65, 120, 101, 115, 83, 99, 97, 108, 101],
  [115, 116, 114, 97, 105, 103, 104, 116, 101, 100, 103, 101, 47, 115, 116, 114, 97, 105, 103, 104, 116, 101, 100, 103, 101, 108, 97, 119, 49, 53, 46, 69, 113, 117, 105, 108, 70, 97, 99, 116, 111, 114, 115],
  [115, 116, 114, 97, 105, 103, 104, 116, 101, 100, 103, 101, 47, 115, 116, 114, 97, 105, 103, 104, 116, 101, 100, 103, 101, 108, 97, 119, 50, 50, 46, 82, 101, 115, 105, 100, 84, 101, 108, 108, 115],
  [115, 116, 114, 97, 105, 103, 104, 116, 101, 100, 103, 101, 47, 115, 116, 114, 97, 105, 103, 104, 116, 101, 100, 103, 101, 108, 97, 119, 50, 50, 46, 82, 101, 115, 105, 100, 66, 97, 99, 107, 119, 97, 114, 100],
  [115, 116, 114, 97, 105, 103, 104, 116, 101, 100, 103, 101, 47, 115, 116, 114, 97, 105, 103, 104, 116, 101, 100, 103, 101, 108, 97, 119, 49, 53, 46, 69, 113, 117, 105, 108, 76, 105, 107, 101],
  [115, 116, 114, 97, 105, 103, 104, 116, 101, 100, 103, 101, 47, 115, 116, 114, 97, 105, 103, 104, 116, 101, 100, 103, 101, 108, 97, 119, 49, 53, 46, 69, 113, 117, 105, 108, 83, 99, 97, 108, 101, 115],
  [115, 116, 114, 97, 105, 103, 104, 116, 101, 100, 103, 101, 47, 115, 116, 114, 97, 105, 103, 104, 116, 101, 100, 103, 101, 108, 97, 119, 50, 48, 46, 76, 97, 99, 110, 66, 101, 108, 111, 119]]
def W : List (List Char) := headWords.map (·.map Char.ofNat)
theorem head_eq : Try.prog.initOrder = String.ofList (headCodes.map Char.ofNat) := by kernel_rfl
theorem head_list : Try.prog.initOrder.toList = headCodes.map Char.ofNat := by rw [head_eq, String.toList_ofList]
theorem head_words : wordsSigns (headCodes.map Char.ofNat) = W := by kernel_rfl
def cutWord : List Char := W.getD 2 []
def restWords : List (List Char) := W.drop 3
theorem head_split : behindMainWord W = cutWord :: restWords := by kernel_rfl
theorem head_behind : behindMainWord (wordsSigns Try.prog.initOrder.toList) = cutWord :: restWords := by rw [head_list, head_words]; exact head_split
theorem head_strip : stripLifts liftWords (cutWord :: restWords) = ([], cutWord :: restWords) := by kernel_rfl
theorem head_final : Try.prog.liftsFinal = false := final_cut head_behind head_strip (by kernel_rfl)
theorem head_make : Try.prog.make = some .cut := make_cut head_behind (by kernel_rfl) (by kernel_rfl)
theorem head_may : Try.prog.mayEnter = true := may_cut head_behind head_strip (by kernel_rfl) (by kernel_rfl) (by kernel_rfl) (by kernel_rfl)
end Go.Proofs.Ytcmggfpcbijcjaa
end
