/-
  Texts laid one behind the other (a claim has at most 60 files): Dy9, Dy10, FinL, LawLac1, LawLac, Head.
-/
import Derived.Deep.CutBlock
import Derived.Deep.DeepCutAuto
import Derived.Deep.RegionWith
import Derived.Test.YtcmggfpcbijcjaaRows
import Derived.ProofKit
import Derived.Test.YtcmggfpcbijcjaaQLacnBelow1
import Derived.Test.YtcmggfpcbijcjaaQLacnBelow2
import Derived.Test.YtcmggfpcbijcjaaQLacnBelow3
import Derived.Test.YtcmggfpcbijcjaaQLacnBelow4
import Derived.Test.YtcmggfpcbijcjaaQLacnBelow5
import Derived.Test.YtcmggfpcbijcjaaQLacnBelow6
import Derived.Test.YtcmggfpcbijcjaaQLacnBelow7
section
/-
  Contracts: the reference's digits (layer 2): Minus, Abs, Sign, Sub, Cmp.
-/
set_option linter.unusedSimpArgs false
set_option linter.unusedVariables false
open Go Go.RowKit Sedge
namespace Go.Proofs.Ytcmggfpcbijcjaa
theorem dat_flip (s : Bool) (m : Nat) (p : Int) : dat (!s) m p = -dat s m p := dat_not s m p
theorem dat_absq (s : Bool) (m : Nat) (p : Int) : dat false m p = (dat s m p).abs := by
  rw [dat_abs]; unfold dat sgn; simp
set_option maxRecDepth 100000 in
set_option maxHeartbeats 1000000 in
/-- Minus. -/
theorem dminus_any (V : Value) (q : Rat) (lo hi : Int) (w : World) (h : DV w V q lo hi) :
   Calls Try.prog 81 #[V] w (fun e w' => ∃ v, e = .returned v ∧ DV w' v (-q) lo hi ∧ (dBlock v = dBlock V ∧ dLen v = dLen V) ∧ ∃ o n, w' = ext w o n) := by
  obtain ⟨ng, L, E, l, rfl, hN, hD, hq, h0, h1, h2⟩ := h
  obtain ⟨sa, sc, rfl⟩ := hN.shape
  have hq' : -q = dat (!ng) (dv l) (16 * E) := by rw [dat_flip, ← hq]
  obtain ⟨r, hr⟩ : ∃ r, r = -q := ⟨_, rfl⟩
  rw [← hr] at hq' ⊢
  clear hr hq
  obtain ⟨n, hn⟩ : ∃ n, n = l.length := ⟨_, rfl⟩
  rw [← hn] at hN ⊢
  by_cases hl : l = []
  · subst hl
    have hn0 : n = 0 := hn
    subst hn0
    clear hn
    obtain ⟨rfl, rfl⟩ := h1 rfl
    have hH := hid hq'
    clear hq' h0 h1 h2
    go_enter Try.func81, Try.ntmps81
    refine seq_stop ?_
    go_wp2
    refine stop_go (fun W hW => ?_)
    have s1 : w.heap.size < W.heap.size := by rw [hW]; simp only [World.size_alloc]; omega
    have b1 : ∀ i, W.cell? ⟨w.heap.size, i, none⟩ = (#[.bool false, .slice sa 0 sc, .int .i64 0] : Array Value)[i]? := by intro i; rw [hW]; go_simp
    have f1 : ∀ i, W.frozen? ⟨w.heap.size, i, none⟩ = false := by intro i; rw [hW]; go_simp
    have s2 : w.heap.size + 1 < W.heap.size := by rw [hW]; simp only [World.size_alloc]; omega
    have b2 : ∀ i, W.cell? ⟨w.heap.size + 1, i, none⟩ = (#[.bool false, .slice none 0 0, .int .i64 0] : Array Value)[i]? := by intro i; rw [hW]; go_simp
    have f2 : ∀ i, W.frozen? ⟨w.heap.size + 1, i, none⟩ = false := by intro i; rw [hW]; go_simp
    have g0 : Grew w W := by rw [hW]; exact ((Grew.refl _).alloc _).alloc _
    clear hW
    go_wp2
    refine bodyPost_ret (by simp [results, Try.results81, go_sem, *]; rfl) rfl ?_
    have gw : Grew w (((W.setCell ⟨w.heap.size + 1, 0, none⟩ (.bool false)).setCell ⟨w.heap.size + 1, 1, none⟩ (.slice sa 0 sc)).setCell ⟨w.heap.size + 1, 2, none⟩ (.int .i64 0)) := by (show Grew _ _; repeat (first | (with_reducible exact Grew.refl _) | (with_reducible assumption) | (with_reducible exact Grew.same_o) | (with_reducible exact Grew.app_o) | (with_reducible refine Grew.ext ?_ _ _) | (with_reducible refine Grew.alloc ?_ _) | ((with_reducible refine Grew.setCell ?_ ?_ _); rotate_left; (focus (dsimp only; first | omega | (simp only [size_ext, World.size_alloc, Array.size_append]; omega)))) | (with_reducible refine Grew.drewN ?_ _) | (with_reducible refine Grew.drew ?_)))
    refine ⟨_, rfl, ⟨false, _, 0, [], rfl, hN.grew gw, hD, ?_, fun _ => rfl, fun _ => ⟨rfl, rfl⟩, fun h => absurd rfl h⟩, ⟨rfl, rfl⟩, gw⟩
    rw [hH.out]; show dat _ 0 _ = dat _ 0 _; rw [dat_zero, dat_zero]
  · have hln : 0 < n := by rw [hn]; exact List.length_pos_iff.2 hl
    clear hn
    have hH := hid hq'
    clear hq'
    go_enter Try.func81, Try.ntmps81
    refine seq_stop ?_
    go_wp2
    refine stop_go (fun W hW => ?_)
    have s1 : w.heap.size < W.heap.size := by rw [hW]; simp only [World.size_alloc]; omega
    have b1 : ∀ i, W.cell? ⟨w.heap.size, i, none⟩ = (#[.bool ng, .slice sa n sc, .int .i64 E] : Array Value)[i]? := by intro i; rw [hW]; go_simp
    have f1 : ∀ i, W.frozen? ⟨w.heap.size, i, none⟩ = false := by intro i; rw [hW]; go_simp
    have s2 : w.heap.size + 1 < W.heap.size := by rw [hW]; simp only [World.size_alloc]; omega
    have b2 : ∀ i, W.cell? ⟨w.heap.size + 1, i, none⟩ = (#[.bool false, .slice none 0 0, .int .i64 0] : Array Value)[i]? := by intro i; rw [hW]; go_simp
    have f2 : ∀ i, W.frozen? ⟨w.heap.size + 1, i, none⟩ = false := by intro i; rw [hW]; go_simp
    have g0 : Grew w W := by rw [hW]; exact ((Grew.refl _).alloc _).alloc _
    clear hW
    go_wp2
    refine bodyPost_ret (by simp [results, Try.results81, go_sem, *]; rfl) rfl ?_
    have gw : Grew w ((((W.setCell ⟨w.heap.size, 0, none⟩ (.bool (!ng))).setCell ⟨w.heap.size + 1, 0, none⟩ (.bool (!ng))).setCell ⟨w.heap.size + 1, 1, none⟩ (.slice sa n sc)).setCell ⟨w.heap.size + 1, 2, none⟩ (.int .i64 E)) := by (show Grew _ _; repeat (first | (with_reducible exact Grew.refl _) | (with_reducible assumption) | (with_reducible exact Grew.same_o) | (with_reducible exact Grew.app_o) | (with_reducible refine Grew.ext ?_ _ _) | (with_reducible refine Grew.alloc ?_ _) | ((with_reducible refine Grew.setCell ?_ ?_ _); rotate_left; (focus (dsimp only; first | omega | (simp only [size_ext, World.size_alloc, Array.size_append]; omega)))) | (with_reducible refine Grew.drewN ?_ _) | (with_reducible refine Grew.drew ?_)))
    exact ⟨_, rfl, ⟨!ng, _, E, l, rfl, hN.grew gw, hD, hH.out, h0, fun h => absurd h hl, h2⟩, ⟨rfl, rfl⟩, gw⟩
set_option maxRecDepth 100000 in
set_option maxHeartbeats 1000000 in
/-- Abs. -/
theorem dabs_any (V : Value) (q : Rat) (lo hi : Int) (w : World) (h : DV w V q lo hi) :
   Calls Try.prog 30 #[V] w (fun e w' => ∃ v, e = .returned v ∧ DV w' v q.abs lo hi ∧ (dBlock v = dBlock V ∧ dLen v = dLen V) ∧ ∃ o n, w' = ext w o n) := by
  obtain ⟨ng, L, E, l, rfl, hN, hD, hq, h0, h1, h2⟩ := h
  obtain ⟨sa, sc, rfl⟩ := hN.shape
  have hq' : q.abs = dat false (dv l) (16 * E) := by rw [dat_absq ng, ← hq]
  obtain ⟨r, hr⟩ : ∃ r, r = q.abs := ⟨_, rfl⟩
  rw [← hr] at hq' ⊢
  clear hr hq
  obtain ⟨n, hn⟩ : ∃ n, n = l.length := ⟨_, rfl⟩
  rw [← hn] at hN ⊢
  have hH := hid hq'
  clear hq' hn
  go_enter Try.func30, Try.ntmps30
  refine seq_stop ?_
  go_wp2
  refine stop_go (fun W hW => ?_)
  have s1 : w.heap.size < W.heap.size := by rw [hW]; simp only [World.size_alloc]; omega
  have b1 : ∀ i, W.cell? ⟨w.heap.size, i, none⟩ = (#[.bool ng, .slice sa n sc, .int .i64 E] : Array Value)[i]? := by intro i; rw [hW]; go_simp
  have f1 : ∀ i, W.frozen? ⟨w.heap.size, i, none⟩ = false := by intro i; rw [hW]; go_simp
  have s2 : w.heap.size + 1 < W.heap.size := by rw [hW]; simp only [World.size_alloc]; omega
  have b2 : ∀ i, W.cell? ⟨w.heap.size + 1, i, none⟩ = (#[.bool false, .slice none 0 0, .int .i64 0] : Array Value)[i]? := by intro i; rw [hW]; go_simp
  have f2 : ∀ i, W.frozen? ⟨w.heap.size + 1, i, none⟩ = false := by intro i; rw [hW]; go_simp
  have g0 : Grew w W := by rw [hW]; exact ((Grew.refl _).alloc _).alloc _
  clear hW
  go_wp2
  refine bodyPost_ret (by simp [results, Try.results30, go_sem, *]; rfl) rfl ?_
  have gw : Grew w ((((W.setCell ⟨w.heap.size, 0, none⟩ (.bool false)).setCell ⟨w.heap.size + 1, 0, none⟩ (.bool false)).setCell ⟨w.heap.size + 1, 1, none⟩ (.slice sa n sc)).setCell ⟨w.heap.size + 1, 2, none⟩ (.int .i64 E)) := by (show Grew _ _; repeat (first | (with_reducible exact Grew.refl _) | (with_reducible assumption) | (with_reducible exact Grew.same_o) | (with_reducible exact Grew.app_o) | (with_reducible refine Grew.ext ?_ _ _) | (with_reducible refine Grew.alloc ?_ _) | ((with_reducible refine Grew.setCell ?_ ?_ _); rotate_left; (focus (dsimp only; first | omega | (simp only [size_ext, World.size_alloc, Array.size_append]; omega)))) | (with_reducible refine Grew.drewN ?_ _) | (with_reducible refine Grew.drew ?_)))
  exact ⟨_, rfl, ⟨false, _, E, l, rfl, hN.grew gw, hD, hH.out, h0, fun h => ⟨(h1 h).1, rfl⟩, h2⟩, ⟨rfl, rfl⟩, gw⟩
def sgE (q : Rat) : Int := if q = 0 then 0 else if q < 0 then -1 else 1
theorem sgE_dat (ng : Bool) (m : Nat) (p : Int) : sgE (dat ng m p) = if m = 0 then 0 else if ng = true then -1 else 1 := by
  unfold sgE
  by_cases hm : m = 0
  · rw [if_pos hm, hm, dat_zero, if_pos rfl]
  · have h1 : dat ng m p ≠ 0 := fun h => hm (dat_eq_zero h)
    have h2 : (0 : Rat) < (m : Rat) * p2 p := Rat.mul_pos (Rat.natCast_pos.2 (Nat.pos_of_ne_zero hm)) (p2_pos p)
    rw [if_neg hm, if_neg h1]
    cases ng
    · rw [if_neg (by unfold dat sgn; simp; grind), if_neg (by decide)]
    · rw [if_pos (by unfold dat sgn; simp; grind), if_pos rfl]
set_option maxRecDepth 100000 in
set_option maxHeartbeats 1000000 in
/-- Sign. -/
theorem dsign_any (V : Value) (q : Rat) (lo hi : Int) (w : World) (h : DV w V q lo hi) :
   Calls Try.prog 126 #[V] w (fun e w' => e = .returned (.int .i64 (sgE q)) ∧ ∃ o n, w' = ext w o n) := by
  obtain ⟨ng, L, E, l, rfl, hN, hD, hq, h0, h1, h2⟩ := h
  obtain ⟨sa, sc, rfl⟩ := hN.shape
  obtain ⟨r, hr⟩ : ∃ r, r = sgE q := ⟨_, rfl⟩
  have hr2 : r = if dv l = 0 then 0 else if ng = true then -1 else 1 := by rw [hr, hq, sgE_dat]
  rw [← hr]
  clear hr hq hN
  obtain ⟨n, hn⟩ : ∃ n, n = l.length := ⟨_, rfl⟩
  rw [← hn]
  by_cases hl : l = []
  · subst hl
    have hn0 : n = 0 := hn
    subst hn0
    clear hn
    have hR := hid (show r = 0 by rw [hr2]; rfl)
    clear hr2
    go_enter Try.func126, Try.ntmps126
    refine seq_stop ?_
    go_wp2
    refine stop_go (fun W hW => ?_)
    have s1 : w.heap.size < W.heap.size := by rw [hW]; simp only [World.size_alloc]; omega
    have b1 : ∀ i, W.cell? ⟨w.heap.size, i, none⟩ = (#[.bool ng, .slice sa 0 sc, .int .i64 E] : Array Value)[i]? := by intro i; rw [hW]; go_simp
    have g0 : Grew w W := by rw [hW]; exact (Grew.refl _).alloc _
    clear hW
    go_wp2
    go_ret
    exact ⟨ret_int hR.out.symm, by (show Grew _ _; repeat (first | (with_reducible exact Grew.refl _) | (with_reducible assumption) | (with_reducible exact Grew.same_o) | (with_reducible exact Grew.app_o) | (with_reducible refine Grew.ext ?_ _ _) | (with_reducible refine Grew.alloc ?_ _) | ((with_reducible refine Grew.setCell ?_ ?_ _); rotate_left; (focus (dsimp only; first | omega | (simp only [size_ext, World.size_alloc, Array.size_append]; omega)))) | (with_reducible refine Grew.drewN ?_ _) | (with_reducible refine Grew.drew ?_)))⟩
  · have hln : ((n : Int) == 0) = false := by rw [beq_eq_false_iff_ne, hn]; have := List.length_pos_iff.2 hl; omega
    clear hn
    rw [if_neg (fun h => hl (h0 h))] at hr2
    cases ng
    · have hR := hid (show r = 1 from hr2)
      clear hr2
      go_enter Try.func126, Try.ntmps126
      refine seq_stop ?_
      go_wp2
      refine stop_go (fun W hW => ?_)
      have s1 : w.heap.size < W.heap.size := by rw [hW]; simp only [World.size_alloc]; omega
      have b1 : ∀ i, W.cell? ⟨w.heap.size, i, none⟩ = (#[.bool false, .slice sa n sc, .int .i64 E] : Array Value)[i]? := by intro i; rw [hW]; go_simp
      have g0 : Grew w W := by rw [hW]; exact (Grew.refl _).alloc _
      clear hW
      go_wp2
      go_ret
      exact ⟨ret_int hR.out.symm, by (show Grew _ _; repeat (first | (with_reducible exact Grew.refl _) | (with_reducible assumption) | (with_reducible exact Grew.same_o) | (with_reducible exact Grew.app_o) | (with_reducible refine Grew.ext ?_ _ _) | (with_reducible refine Grew.alloc ?_ _) | ((with_reducible refine Grew.setCell ?_ ?_ _); rotate_left; (focus (dsimp only; first | omega | (simp only [size_ext, World.size_alloc, Array.size_append]; omega)))) | (with_reducible refine Grew.drewN ?_ _) | (with_reducible refine Grew.drew ?_)))⟩
    · have hR := hid (show r = -1 from hr2)
      clear hr2
      go_enter Try.func126, Try.ntmps126
      refine seq_stop ?_
      go_wp2
      refine stop_go (fun W hW => ?_)
      have s1 : w.heap.size < W.heap.size := by rw [hW]; simp only [World.size_alloc]; omega
      have b1 : ∀ i, W.cell? ⟨w.heap.size, i, none⟩ = (#[.bool true, .slice sa n sc, .int .i64 E] : Array Value)[i]? := by intro i; rw [hW]; go_simp
      have g0 : Grew w W := by rw [hW]; exact (Grew.refl _).alloc _
      clear hW
      go_wp2
      go_ret
      exact ⟨ret_int hR.out.symm, by (show Grew _ _; repeat (first | (with_reducible exact Grew.refl _) | (with_reducible assumption) | (with_reducible exact Grew.same_o) | (with_reducible exact Grew.app_o) | (with_reducible refine Grew.ext ?_ _ _) | (with_reducible refine Grew.alloc ?_ _) | ((with_reducible refine Grew.setCell ?_ ?_ _); rotate_left; (focus (dsimp only; first | omega | (simp only [size_ext, World.size_alloc, Array.size_append]; omega)))) | (with_reducible refine Grew.drewN ?_ _) | (with_reducible refine Grew.drew ?_)))⟩
set_option maxRecDepth 100000 in
set_option maxHeartbeats 1000000 in
/-- Sub. -/
theorem dsub_any (V1 V2 : Value) (p q : Rat) (lo hi : Int) (w : World) (h1 : DV w V1 p lo hi) (h2 : DV w V2 q lo hi) (hlo : -100000 ≤ lo) (hhi : hi ≤ 100000) :
   Calls Try.prog 29 #[V1, V2] w (fun e w' => ∃ v, e = .returned v ∧ DV w' v (p - q) lo (hi + 1) ∧ (∀ k, dBlock v = some k → w.heap.size ≤ k) ∧ ∃ o n, w' = ext w o n) := by
  have hm : ∀ w', Grew w w' → Calls Try.prog 81 #[V2] w' (fun e w2 => ∃ v, e = .returned v ∧ DV w2 v (-q) lo hi ∧ ∃ o n, w2 = ext w' o n) := fun w' g => by
    refine (dminus_any V2 q lo hi w' (h2.grew g)).mono fun e w2 hh => ?_
    obtain ⟨v, a1, a2, _, a4⟩ := hh
    exact ⟨v, a1, a2, a4⟩
  have ha : ∀ V w', Grew w w' → DV w' V (-q) lo hi → Calls Try.prog 31 #[V1, V] w' (fun e w2 => ∃ v, e = .returned v ∧ DV w2 v (p - q) lo (hi + 1) ∧ (∀ k, dBlock v = some k → w'.heap.size ≤ k) ∧ ∃ o n, w2 = ext w' o n) := fun V w' g hv => by
    have := dadd_any V1 V p (-q) lo hi w' (h1.grew g) hv hlo hhi
    rw [← Rat.sub_eq_add_neg] at this
    exact this
  obtain ⟨na, aa, al, ac, aE, rfl⟩ := h1.shape
  obtain ⟨nb, ba, bl, bc, bE, rfl⟩ := h2.shape
  clear h1 h2 hlo hhi
  go_enter Try.func29, Try.ntmps29
  refine seq_stop ?_
  go_wp2
  refine stop_go (fun W hW => ?_)
  have s1 : w.heap.size < W.heap.size := by rw [hW]; simp only [World.size_alloc]; omega
  have b1 : ∀ i, W.cell? ⟨w.heap.size, i, none⟩ = (#[.bool na, .slice aa al ac, .int .i64 aE] : Array Value)[i]? := by intro i; rw [hW]; go_simp
  have f1 : ∀ i, W.frozen? ⟨w.heap.size, i, none⟩ = false := by intro i; rw [hW]; go_simp
  have s2 : w.heap.size + 1 < W.heap.size := by rw [hW]; simp only [World.size_alloc]; omega
  have b2 : ∀ i, W.cell? ⟨w.heap.size + 1, i, none⟩ = (#[.bool nb, .slice ba bl bc, .int .i64 bE] : Array Value)[i]? := by intro i; rw [hW]; go_simp
  have f2 : ∀ i, W.frozen? ⟨w.heap.size + 1, i, none⟩ = false := by intro i; rw [hW]; go_simp
  have s3 : w.heap.size + 1 + 1 < W.heap.size := by rw [hW]; simp only [World.size_alloc]; omega
  have b3 : ∀ i, W.cell? ⟨w.heap.size + 1 + 1, i, none⟩ = (#[.bool false, .slice none 0 0, .int .i64 0] : Array Value)[i]? := by intro i; rw [hW]; go_simp
  have f3 : ∀ i, W.frozen? ⟨w.heap.size + 1 + 1, i, none⟩ = false := by intro i; rw [hW]; go_simp
  have g0 : Grew w W := by rw [hW]; exact (((Grew.refl _).alloc _).alloc _).alloc _
  clear hW
  go_wp2
  refine wp_region_R (Grew W) [4] [(0,0), (0,1), (1,2), (1,3), (2,4)] (by kernel_rfl) (by kernel_rfl) (fun _ _ _ _ h _ => h) (by first | exact ⟨_, _, ext_drew⟩ | exact ⟨_, _, drew_ext0⟩ | (show Grew _ _; repeat (first | (with_reducible exact Grew.refl _) | (with_reducible assumption) | (with_reducible exact Grew.same_o) | (with_reducible exact Grew.app_o) | (with_reducible refine Grew.ext ?_ _ _) | (with_reducible refine Grew.alloc ?_ _) | ((with_reducible refine Grew.setCell ?_ ?_ _); rotate_left; (focus (dsimp only; first | omega | (simp only [size_ext, World.size_alloc, Array.size_append]; omega)))) | (with_reducible refine Grew.drewN ?_ _) | (with_reducible refine Grew.drew ?_)))) ?_
  go_wp2_with (first | ((with_reducible refine wpR_id ?_); first | (refine wpR_take (v := ?_) rfl rfl ?_ ?_; rotate_left; (focus (rintro w' ⟨o', n', rfl⟩; go_simp; try with_reducible rfl)); simp only [Act.put, List.setIfInBounds_toArray, List.set_cons_zero, List.set_cons_succ]) | (refine wpR_pure (v := ?_) rfl rfl ?_ ?_; rotate_left; (focus (intro w'; go_simp; try with_reducible rfl)); simp only [Act.put, List.setIfInBounds_toArray, List.set_cons_zero, List.set_cons_succ]) | (refine wpR_takeG (v := ?_) rfl rfl rfl rfl rfl ?_ ?_; rotate_left; (focus (rintro w' ⟨o', n', rfl⟩; go_simp; try with_reducible rfl)); simp only [Act.put, List.setIfInBounds_toArray, List.set_cons_zero, List.set_cons_succ]) | (refine wpR_skip rfl rfl rfl rfl rfl rfl ?_; simp only [Act.put, List.setIfInBounds_toArray, List.set_cons_zero, List.set_cons_succ]) | (refine wpR_skipU rfl rfl rfl rfl rfl ?_; simp only [Act.put, List.setIfInBounds_toArray, List.set_cons_zero, List.set_cons_succ]) | (refine wpR_do rfl rfl (fun K hK => ?_)) | (refine wpR_doG rfl rfl rfl rfl rfl (fun K hK => ?_)) | (refine wpR_last rfl rfl (fun K hK => ?_)) | (refine wpR_nil ?_)) | ((with_reducible refine wpR_go ?_ ?_); (focus (show Grew _ _; repeat (first | (with_reducible exact Grew.refl _) | (with_reducible assumption) | (with_reducible exact Grew.same_o) | (with_reducible exact Grew.app_o) | (with_reducible refine Grew.ext ?_ _ _) | (with_reducible refine Grew.alloc ?_ _) | ((with_reducible refine Grew.setCell ?_ ?_ _); rotate_left; (focus (dsimp only; first | omega | (simp only [size_ext, World.size_alloc, Array.size_append]; omega)))) | (with_reducible refine Grew.drewN ?_ _) | (with_reducible refine Grew.drew ?_))))) | ((with_reducible refine upon_id ?_); refine upon_fop rfl (by assumption) (by assumption) ?_; intro rr nn hr) | (go_at_call 81; ((with_reducible refine (hm _ (Grew.trans g0 (by (show Grew _ _; repeat (first | (with_reducible exact Grew.refl _) | (with_reducible assumption) | (with_reducible exact Grew.same_o) | (with_reducible exact Grew.app_o) | (with_reducible refine Grew.ext ?_ _ _) | (with_reducible refine Grew.alloc ?_ _) | ((with_reducible refine Grew.setCell ?_ ?_ _); rotate_left; (focus (dsimp only; first | omega | (simp only [size_ext, World.size_alloc, Array.size_append]; omega)))) | (with_reducible refine Grew.drewN ?_ _) | (with_reducible refine Grew.drew ?_)))))).mono ?_); rintro e w1 ⟨u, rfl, hu, o1, k1, rfl⟩; (try simp only [drew_ext, drewN_ext, ext_ext] at hu); obtain ⟨un, ua, ul, uc, uE, rfl⟩ := hu.shape)) | (go_at_call 31; ((with_reducible refine (ha _ _ (Grew.trans g0 (by (show Grew _ _; repeat (first | (with_reducible exact Grew.refl _) | (with_reducible assumption) | (with_reducible exact Grew.same_o) | (with_reducible exact Grew.app_o) | (with_reducible refine Grew.ext ?_ _ _) | (with_reducible refine Grew.alloc ?_ _) | ((with_reducible refine Grew.setCell ?_ ?_ _); rotate_left; (focus (dsimp only; first | omega | (simp only [size_ext, World.size_alloc, Array.size_append]; omega)))) | (with_reducible refine Grew.drewN ?_ _) | (with_reducible refine Grew.drew ?_))))) hu).mono ?_); rintro e w1 ⟨v, rfl, hv, hbk, o2, k2, rfl⟩; obtain ⟨vn, va, vl, vc, vE, rfl⟩ := hv.shape)))
  rw [ext_ext] at hv
  refine bodyPost_ret (by simp [results, Try.results29, go_sem, *]; rfl) rfl ?_
  exact ⟨_, rfl, hv.ext_set3 s3 (fun k hk => by have := hbk k hk; simp only [size_ext] at this; omega) _ _ _, fun k hk => by have := hbk k hk; have := g0.below.size; simp only [size_ext] at *; omega, grew_set3 g0 (by omega) _ _ _ _ _⟩
set_option maxRecDepth 100000 in
set_option maxHeartbeats 1000000 in
/-- Cmp. -/
theorem dcmp_any (V1 V2 : Value) (p q : Rat) (lo hi : Int) (w : World) (h1 : DV w V1 p lo hi) (h2 : DV w V2 q lo hi) (hlo : -100000 ≤ lo) (hhi : hi ≤ 100000) :
   Calls Try.prog 34 #[V1, V2] w (fun e w' => e = .returned (.int .i64 (sgE (p - q))) ∧ ∃ o n, w' = ext w o n) := by
  have hm : ∀ w', Grew w w' → Calls Try.prog 29 #[V1, V2] w' (fun e w2 => ∃ v, e = .returned v ∧ DV w2 v (p - q) lo (hi + 1) ∧ ∃ o n, w2 = ext w' o n) := fun w' g => by
    refine (dsub_any V1 V2 p q lo hi w' (h1.grew g) (h2.grew g) hlo hhi).mono fun e w2 hh => ?_
    obtain ⟨v, a1, a2, _, a4⟩ := hh
    exact ⟨v, a1, a2, a4⟩
  obtain ⟨r, hr⟩ : ∃ r, r = sgE (p - q) := ⟨_, rfl⟩
  have hs : ∀ V w', DV w' V (p - q) lo (hi + 1) → Calls Try.prog 126 #[V] w' (fun e w2 => e = .returned (.int .i64 r) ∧ ∃ o n, w2 = ext w' o n) := fun V w' h => by
    rw [hr]; exact dsign_any V _ _ _ w' h
  rw [← hr]
  obtain ⟨na, aa, al, ac, aE, rfl⟩ := h1.shape
  obtain ⟨nb, ba, bl, bc, bE, rfl⟩ := h2.shape
  clear h1 h2 hlo hhi hr
  go_enter Try.func34, Try.ntmps34
  refine seq_stop ?_
  go_wp2
  refine stop_go (fun W hW => ?_)
  have s1 : w.heap.size < W.heap.size := by rw [hW]; simp only [World.size_alloc]; omega
  have b1 : ∀ i, W.cell? ⟨w.heap.size, i, none⟩ = (#[.bool na, .slice aa al ac, .int .i64 aE] : Array Value)[i]? := by intro i; rw [hW]; go_simp
  have s2 : w.heap.size + 1 < W.heap.size := by rw [hW]; simp only [World.size_alloc]; omega
  have b2 : ∀ i, W.cell? ⟨w.heap.size + 1, i, none⟩ = (#[.bool nb, .slice ba bl bc, .int .i64 bE] : Array Value)[i]? := by intro i; rw [hW]; go_simp
  have g0 : Grew w W := by rw [hW]; exact ((Grew.refl _).alloc _).alloc _
  clear hW
  go_wp2_with (first | (go_at_call 29; ((with_reducible refine (hm _ (Grew.trans g0 (by (show Grew _ _; repeat (first | (with_reducible exact Grew.refl _) | (with_reducible assumption) | (with_reducible exact Grew.same_o) | (with_reducible exact Grew.app_o) | (with_reducible refine Grew.ext ?_ _ _) | (with_reducible refine Grew.alloc ?_ _) | ((with_reducible refine Grew.setCell ?_ ?_ _); rotate_left; (focus (dsimp only; first | omega | (simp only [size_ext, World.size_alloc, Array.size_append]; omega)))) | (with_reducible refine Grew.drewN ?_ _) | (with_reducible refine Grew.drew ?_)))))).mono ?_); rintro e w1 ⟨u, rfl, hu, o1, k1, rfl⟩; obtain ⟨un, ua, ul, uc, uE, rfl⟩ := hu.shape)) | (go_at_call 126; ((with_reducible refine (hs _ _ hu).mono ?_); rintro e w1 ⟨rfl, o2, k2, rfl⟩)))
  go_ret
  exact ⟨rfl, Grew.trans g0 (by (show Grew _ _; repeat (first | (with_reducible exact Grew.refl _) | (with_reducible assumption) | (with_reducible exact Grew.same_o) | (with_reducible exact Grew.app_o) | (with_reducible refine Grew.ext ?_ _ _) | (with_reducible refine Grew.alloc ?_ _) | ((with_reducible refine Grew.setCell ?_ ?_ _); rotate_left; (focus (dsimp only; first | omega | (simp only [size_ext, World.size_alloc, Array.size_append]; omega)))) | (with_reducible refine Grew.drewN ?_ _) | (with_reducible refine Grew.drew ?_))))⟩
end Go.Proofs.Ytcmggfpcbijcjaa
end
section
/-
  Contracts: the reference's digits (layer 2): Mul.
-/
set_option linter.unusedSimpArgs false
set_option linter.unusedVariables false
open Go Go.RowKit Sedge
namespace Go.Proofs.Ytcmggfpcbijcjaa
theorem dat_mul (n1 n2 : Bool) (x y : Nat) (E F : Int) : dat (n1 != n2) (x * y) (16 * (E + F)) = dat n1 x (16 * E) * dat n2 y (16 * F) := by
  have := product_val n1 n2 x y (16 * E) (16 * F)
  rw [← this]
  congr 1
  · omega
set_option maxRecDepth 100000 in
set_option maxHeartbeats 8000000 in
/-- Mul. -/
theorem dmul_any (V1 V2 : Value) (p q : Rat) (lo1 hi1 lo2 hi2 : Int) (w : World) (h1 : DV w V1 p lo1 hi1) (h2 : DV w V2 q lo2 hi2) (hlo1 : -100000 ≤ lo1) (hhi1 : hi1 ≤ 100000) (hlo2 : -100000 ≤ lo2) (hhi2 : hi2 ≤ 100000) :
   Calls Try.prog 28 #[V1, V2] w (fun e w' => ∃ v, e = .returned v ∧ DV w' v (p * q) (lo1 + lo2) (hi1 + hi2 + 1) ∧ (∀ k, dBlock v = some k → w.heap.size ≤ k) ∧ ∃ o n, w' = ext w o n) := by
  obtain ⟨n1, L1, E, a, rfl, ha, hda, hp, hz1, he1, hr1⟩ := h1
  obtain ⟨n2, L2, F, b, rfl, hb, hdb, hq, hz2, he2, hr2⟩ := h2
  obtain ⟨s1', c1', e1⟩ := ha.shape
  obtain ⟨s2', c2', e2⟩ := hb.shape
  subst e1 e2
  have hE : -100000 ≤ E ∧ E ≤ 100000 ∧ a.length ≤ 200000 := by
    by_cases hl : a = []
    · subst hl; have := (he1 rfl).1; simp; omega
    · have := hr1 hl; omega
  have hF : -100000 ≤ F ∧ F ≤ 100000 ∧ b.length ≤ 200000 := by
    by_cases hl : b = []
    · subst hl; have := (he2 rfl).1; simp; omega
    · have := hr2 hl; omega
  obtain ⟨r, hr⟩ : ∃ r, Hid (r = p * q) := ⟨_, hid rfl⟩
  rw [← hr.out]
  have hmade : ∀ L' l' w', NS w' L' l' → Dg l' → l'.length = a.length + b.length + 1 → dv l' = dv a * dv b → Calls Try.prog 120 #[.bool (!(n1 == n2)), L', .int .i64 (E + F)] w' (fun e w2 => ∃ v, e = .returned v ∧ DV w2 v r (lo1 + lo2) (hi1 + hi2 + 1) ∧ (∀ k, dBlock v = some k → L'.ownBlock = some k) ∧ ∃ o n, w2 = ext w' o n) := fun L' l' w' b1 b2 b3 b4 => by
    refine (made_any (!(n1 == n2)) L' l' (E + F) w' b1 b2 (by omega) (by omega)).mono fun e w2 hh => ?_
    obtain ⟨v, d1, d2, d3, d4⟩ := hh
    refine ⟨v, d1, ?_, d3, d4⟩
    have e1 : dat (!(n1 == n2)) (dv l') (16 * (E + F)) = r := by rw [hr.out, hp, hq, b4]; exact dat_mul n1 n2 _ _ E F
    rw [e1] at d2
    by_cases hae : a = []
    · have r0 : r = 0 := by rw [hr.out, hp, hae]; show dat n1 0 _ * q = 0; rw [dat_zero]; grind
      rw [r0] at d2 ⊢
      exact d2.zero
    · by_cases hbe : b = []
      · have r0 : r = 0 := by rw [hr.out, hq, hbe]; show p * dat n2 0 _ = 0; rw [dat_zero]; grind
        rw [r0] at d2 ⊢
        exact d2.zero
      · have := hr1 hae
        have := hr2 hbe
        exact d2.mono (by omega) (by omega)
  have hA : ∀ i, a.getD i 0 < 65536 := hda.get
  have hB : ∀ i, b.getD i 0 < 65536 := hdb.get
  have hdvb : dv b < 65536 ^ b.length := dv_lt hdb
  have hdsl : ds (fun j => a.getD j 0) a.length = dv a := ds_list a
  have hdslb : ds (fun j => b.getD j 0) b.length = dv b := ds_list b
  have hdsa : ∀ i, ds (fun j => a.getD j 0) i < 65536 ^ i := ds_lt hA
  have hca : 0 < a.length → ∃ blk o, s1' = some ⟨blk, o, none⟩ ∧ blk < w.heap.size ∧ ∀ i, i < a.length → w.cell? ⟨blk, o + i, none⟩ = some (.int .i64 (a.getD i 0 : Nat)) := ha.at.2.2
  have hcb : 0 < b.length → ∃ blk o, s2' = some ⟨blk, o, none⟩ ∧ blk < w.heap.size ∧ ∀ i, i < b.length → w.cell? ⟨blk, o + i, none⟩ = some (.int .i64 (b.getD i 0 : Nat)) := hb.at.2.2
  obtain ⟨la, hla⟩ : ∃ la, la = a.length := ⟨_, rfl⟩
  obtain ⟨lb, hlb⟩ : ∃ lb, lb = b.length := ⟨_, rfl⟩
  obtain ⟨DA, hDA⟩ : ∃ DA, DA = dv a := ⟨_, rfl⟩
  obtain ⟨DB, hDB⟩ : ∃ DB, DB = dv b := ⟨_, rfl⟩
  obtain ⟨fa, hfa⟩ : ∃ fa : Nat → Nat, fa = fun j => a.getD j 0 := ⟨_, rfl⟩
  obtain ⟨fb, hfb⟩ : ∃ fb : Nat → Nat, fb = fun j => b.getD j 0 := ⟨_, rfl⟩
  have hA' : ∀ i, fa i < 65536 := fun i => by rw [hfa]; exact hA i
  have hB' : ∀ i, fb i < 65536 := fun i => by rw [hfb]; exact hB i
  have hca' : 0 < la → ∃ blk o, s1' = some ⟨blk, o, none⟩ ∧ blk < w.heap.size ∧ ∀ i, i < la → w.cell? ⟨blk, o + i, none⟩ = some (.int .i64 (fa i : Nat)) := by rw [hla, hfa]; exact hca
  have hcb' : 0 < lb → ∃ blk o, s2' = some ⟨blk, o, none⟩ ∧ blk < w.heap.size ∧ ∀ i, i < lb → w.cell? ⟨blk, o + i, none⟩ = some (.int .i64 (fb i : Nat)) := by rw [hlb, hfb]; exact hcb
  rw [← hla, ← hlb, ← hDA, ← hDB] at hmade
  rw [← hlb, ← hDB] at hdvb
  rw [← hla, ← hfa, ← hDA] at hdsl
  rw [← hlb, ← hfb, ← hDB] at hdslb
  rw [← hfa] at hdsa
  rw [← hla, ← hlb]
  have hla2 : la ≤ 200000 := by omega
  have hlb2 : lb ≤ 200000 := by omega
  have HDS := hid hdsl
  have HDSB := hid hdslb
  have HDVB := hid hdvb
  have HDSA := hid hdsa
  have HCA := hid hca'
  have HCB := hid hcb'
  have HFA := hid hA'
  have HFB := hid hB'
  clear hA hB hca hcb hla hlb hDA hDB hfa hfb ha hb hda hdb hp hq hz1 hz2 he1 he2 hr1 hr2 hr hdsl hdslb hdvb hdsa hca' hcb' hA' hB'
  go_enter Try.func28, Try.ntmps28
  refine seq_stop ?_
  go_wp2
  refine stop_go (fun W hW => ?_)
  have s1 : w.heap.size < W.heap.size := by rw [hW]; simp only [World.size_alloc]; omega
  have b1 : ∀ i, W.cell? ⟨w.heap.size, i, none⟩ = (#[.bool n1, .slice s1' la c1', .int .i64 E] : Array Value)[i]? := by intro i; rw [hW]; go_simp
  have f1 : ∀ i, W.frozen? ⟨w.heap.size, i, none⟩ = false := by intro i; rw [hW]; go_simp
  have s2 : w.heap.size + 1 < W.heap.size := by rw [hW]; simp only [World.size_alloc]; omega
  have b2 : ∀ i, W.cell? ⟨w.heap.size + 1, i, none⟩ = (#[.bool n2, .slice s2' lb c2', .int .i64 F] : Array Value)[i]? := by intro i; rw [hW]; go_simp
  have f2 : ∀ i, W.frozen? ⟨w.heap.size + 1, i, none⟩ = false := by intro i; rw [hW]; go_simp
  have s3 : w.heap.size + 1 + 1 < W.heap.size := by rw [hW]; simp only [World.size_alloc]; omega
  have b3 : ∀ i, W.cell? ⟨w.heap.size + 1 + 1, i, none⟩ = (#[.bool false, .slice none 0 0, .int .i64 0] : Array Value)[i]? := by intro i; rw [hW]; go_simp
  have f3 : ∀ i, W.frozen? ⟨w.heap.size + 1 + 1, i, none⟩ = false := by intro i; rw [hW]; go_simp
  have g0 : Grew w W := by rw [hW]; exact (((Grew.refl _).alloc _).alloc _).alloc _
  clear hW
  have zW := g0.below.size
  go_wp2_with (first | (at_make; refine make_n iundN iinfoN (Grew.refl W) _ _ rfl rfl (la + lb + 1) (by omega) rfl rfl (by omega) ?_; intro oo nn g hg hB))
  refine name_any (fun V hV => ?_)
  have gV : Grew W V := by rw [← hV]; (show Grew _ _; repeat (first | (with_reducible exact Grew.refl _) | (with_reducible assumption) | (with_reducible exact Grew.same_o) | (with_reducible exact Grew.app_o) | (with_reducible refine Grew.ext ?_ _ _) | (with_reducible refine Grew.alloc ?_ _) | ((with_reducible refine Grew.setCell ?_ ?_ _); rotate_left; (focus (dsimp only; first | omega | (simp only [size_ext, World.size_alloc, Array.size_append]; omega)))) | (with_reducible refine Grew.drewN ?_ _) | (with_reducible refine Grew.drew ?_)))
  rw [hV] at hB
  clear hV
  have zV := gV.below.size
  have kgV := hB.lt
  have c1 : ∀ i, V.cell? ⟨w.heap.size, i, none⟩ = (#[.bool n1, .slice s1' la c1', .int .i64 E] : Array Value)[i]? := fun i => (gV.cell s1).trans (b1 i)
  have c2 : ∀ i, V.cell? ⟨w.heap.size + 1, i, none⟩ = (#[.bool n2, .slice s2' lb c2', .int .i64 F] : Array Value)[i]? := fun i => (gV.cell s2).trans (b2 i)
  have c3 : ∀ i, V.cell? ⟨w.heap.size + 1 + 1, i, none⟩ = (#[.bool false, .slice none 0 0, .int .i64 0] : Array Value)[i]? := fun i => (gV.cell s3).trans (b3 i)
  have fz : ∀ i, V.frozen? ⟨g, i, none⟩ = false := hB.notFrozen
  have fz2 : ∀ i, V.frozen? ⟨w.heap.size + 1 + 1, i, none⟩ = false := fun i => (gV.frozen s3).trans (f3 i)
  have k1 : w.heap.size < V.heap.size := by omega
  have k2 : w.heap.size + 1 < V.heap.size := by omega
  have k3 : w.heap.size + 1 + 1 < V.heap.size := by omega
  have n1' : w.heap.size ≠ g := by omega
  have n2' : w.heap.size + 1 ≠ g := by omega
  have n3' : w.heap.size + 1 + 1 ≠ g := by omega
  have gw : Grew w V := Grew.trans g0 gV
  clear b1 b2 b3 f1 f2 f3
  go_loopw [6] (fun c wx => ∃ (i : Nat) (m : List Nat) (o : Array Obj) (n : Nat), i ≤ la ∧ c = .int .i64 i ∧ wx = ext (upd V g (ia m)) o n ∧ m.length = la + lb + 1 ∧ Dg m ∧ dv m = ds fa i * DB) (fun c _ => la - (intOf c).toNat)
  case atStart => exact ⟨0, List.replicate (la + lb + 1) 0, #[], V.drawn, Nat.zero_le _, rfl, by rw [hB.self]; exact ext_zero.symm, by simp, Dg.replicate _, by rw [dv_replicate]; simp [ds]⟩
  case round =>
    obtain ⟨i, m, o, n, hi, rfl, rfl, hml, hmD, hmV⟩ := hrel
    by_cases hlt : i < la
    · obtain ⟨blk, so, rfl, hblk, hcl⟩ := HCA.out (by omega)
      have hci := (gw.cell hblk).trans (hcl i hlt)
      have kb : blk < V.heap.size := by omega
      have nb : blk ≠ g := by omega
      have hX16 := HFA.out i
      have hT : ds fa (i + 1) * DB = dv m + fa i * 65536 ^ i * DB := by rw [hmV]; show (ds fa i + fa i * 65536 ^ i) * DB = _; rw [Nat.add_mul]
      have hTlt : ds fa (i + 1) * DB < 65536 ^ (la + lb) := by
        have h1 := HDSA.out (i + 1)
        have h2 : 65536 ^ (i + 1) ≤ 65536 ^ la := Nat.pow_le_pow_right (by decide) hlt
        rw [Nat.pow_add]
        exact Nat.mul_lt_mul'' (by omega) HDVB.out
      obtain ⟨TT, hTT⟩ : ∃ TT, TT = ds fa (i + 1) * DB := ⟨_, rfl⟩
      rw [← hTT] at hT hTlt
      obtain ⟨X, hX⟩ : ∃ X, X = fa i := ⟨_, rfl⟩
      rw [← hX] at hci hX16 hT
      have HTT := hid hTT
      have HT := hid hT
      have HTL := hid hTlt
      have HML := hid hml
      clear hcl hX hTT hT hmV hTlt
      go_wp2
      go_loopw [7, 8] (fun u c wx => ∃ (k : Nat) (y : Nat) (m' : List Nat) (o : Array Obj) (n : Nat), k ≤ lb ∧ u = .int .i64 y ∧ c = .int .i64 k ∧ wx = ext (upd V g (ia m')) o n ∧ m'.length = la + lb + 1 ∧ Dg m' ∧ y < 65536 ∧ dv m' + y * 65536 ^ (i + k) = dv m + X * 65536 ^ i * ds fb k) (fun _ c _ => lb - (intOf c).toNat)
      case atStart => exact ⟨0, 0, m, o, n, Nat.zero_le _, rfl, rfl, rfl, HML.out, hmD, by decide, by simp [ds]⟩
      case round =>
        obtain ⟨k, y, m', o, n, hk, rfl, rfl, rfl, hml', hmD', hy, hV'⟩ := hrel
        have hiN : i ≤ 200000 := by omega
        by_cases hkl : k < lb
        · obtain ⟨blk2, so2, rfl, hblk2, hcl2⟩ := HCB.out (by omega)
          have hck := (gw.cell hblk2).trans (hcl2 k hkl)
          have kb2 : blk2 < V.heap.size := by omega
          have nb2 : blk2 ≠ g := by omega
          have hY16 := HFB.out k
          obtain ⟨Y, hY⟩ : ∃ Y, Y = fb k := ⟨_, rfl⟩
          rw [← hY] at hck hY16
          obtain ⟨Z, hZ⟩ : ∃ Z, Z = m'.getD (i + k) 0 := ⟨_, rfl⟩
          have hZ16 : Z < 65536 := by rw [hZ]; exact hmD'.get _
          have hmi : (upd V g (ia m')).cell? ⟨g, i + k, none⟩ = some (.int .i64 (Z : Int)) := by rw [hB.get (by omega), hZ]
          obtain ⟨I, hI⟩ : ∃ I, I = i + k := ⟨_, rfl⟩
          rw [← hI] at hmi
          have w5 : IntKind.i64.wrap ((i : Int) + (k : Int)) = (I : Int) := by rw [IntWalk.i64_in _ (by omega)]; omega
          have hIlt : I < la + lb + 1 := by omega
          have hIltZ : ((I : Int) < (la : Int) + lb + 1) = True := by simp; omega
          have hms := mul_step (l := m') (i := i + k) (c := y) (a := X) (b := Y) (by omega)
          have hmc := mul_carry hy hX16 hY16 hZ16
          rw [← hZ] at hms
          obtain ⟨P, hP⟩ : ∃ P, P = X * Y := ⟨_, rfl⟩
          obtain ⟨S, hS⟩ : ∃ S, S = y + P + Z := ⟨_, rfl⟩
          rw [← hP] at hms hmc
          rw [← hS] at hms hmc
          obtain ⟨hS1, hS2⟩ := hmc
          obtain ⟨Mo, hMo⟩ : ∃ Mo, Mo = S % 65536 := ⟨_, rfl⟩
          obtain ⟨Di, hDi⟩ : ∃ Di, Di = S / 65536 := ⟨_, rfl⟩
          have w0 : (X : Int) * (Y : Int) = (P : Int) := by rw [hP]; simp
          have w1 : IntKind.i64.wrap ((X : Int) * (Y : Int)) = (P : Int) := by rw [w0]; exact IntWalk.i64_in _ (by omega)
          have w2 : IntKind.i64.wrap ((y : Int) + P) = (y : Int) + P := IntWalk.i64_in _ (by omega)
          have w3 : IntKind.i64.wrap ((y : Int) + P + Z) = (S : Int) := by rw [IntWalk.i64_in _ (by omega)]; omega
          have m1 : (S : Int).tmod 65536 = (Mo : Int) := by rw [Int.tmod_eq_emod_of_nonneg (by omega)]; omega
          have m2 : (S : Int).tdiv 65536 = (Di : Int) := by rw [Int.tdiv_eq_ediv_of_nonneg (by omega)]; omega
          have m1' : (S : Int) % 65536 = (Mo : Int) := by omega
          have m2' : (S : Int) / 65536 = (Di : Int) := by omega
          have hMo16 : Mo < 65536 := by omega
          have hDi16 : Di < 65536 := by omega
          rw [← hMo, ← hDi] at hms
          have hst : dv (m'.set (i + k) Mo) + Di * 65536 ^ (i + (k + 1)) = dv m + X * 65536 ^ i * ds fb (k + 1) := by
            show _ = dv m + X * 65536 ^ i * (ds fb k + fb k * 65536 ^ k)
            rw [← Nat.add_assoc i k 1, hms, hV', ← hY, hP, Nat.mul_add, Nat.pow_add]
            rw [show X * 65536 ^ i * (Y * 65536 ^ k) = X * Y * (65536 ^ i * 65536 ^ k) by rw [Nat.mul_assoc, Nat.mul_assoc, Nat.mul_left_comm (65536 ^ i)]]
            omega
          have HST := hid hst
          have HML' := hid hml'
          have HI := hid hI
          clear hst hms hY hZ hP hS hMo hDi w0 hcl2 hV' hml' hS2 hI
          go_wp2
          refine wp_region_R (Grew (ext (upd V g (ia m')) o n)) [] [(0,0), (0,1), (0,2), (0,3), (0,4), (0,5), (0,6), (0,7), (0,8), (0,9), (0,10), (0,11), (0,12), (0,13), (0,14), (0,15), (0,16), (0,17), (0,18), (0,19), (0,20)] (by kernel_rfl) (by kernel_rfl) (fun _ _ _ _ h _ => h) (by first | exact ⟨_, _, ext_drew⟩ | exact ⟨_, _, drew_ext0⟩ | (show Grew _ _; repeat (first | (with_reducible exact Grew.refl _) | (with_reducible assumption) | (with_reducible exact Grew.same_o) | (with_reducible exact Grew.app_o) | (with_reducible refine Grew.ext ?_ _ _) | (with_reducible refine Grew.alloc ?_ _) | ((with_reducible refine Grew.setCell ?_ ?_ _); rotate_left; (focus (dsimp only; first | omega | (simp only [size_ext, World.size_alloc, Array.size_append]; omega)))) | (with_reducible refine Grew.drewN ?_ _) | (with_reducible refine Grew.drew ?_)))) ?_
          go_wp2_with (first | ((with_reducible refine wpR_id ?_); first | (refine wpR_take (v := ?_) rfl rfl ?_ ?_; rotate_left; (focus (rintro w' ⟨o', n', rfl⟩; go_simp; try with_reducible rfl)); simp only [Act.put, List.setIfInBounds_toArray, List.set_cons_zero, List.set_cons_succ]) | (refine wpR_pure (v := ?_) rfl rfl ?_ ?_; rotate_left; (focus (intro w'; go_simp; try with_reducible rfl)); simp only [Act.put, List.setIfInBounds_toArray, List.set_cons_zero, List.set_cons_succ]) | (refine wpR_takeG (v := ?_) rfl rfl rfl rfl rfl ?_ ?_; rotate_left; (focus (rintro w' ⟨o', n', rfl⟩; go_simp; try with_reducible rfl)); simp only [Act.put, List.setIfInBounds_toArray, List.set_cons_zero, List.set_cons_succ]) | (refine wpR_skip rfl rfl rfl rfl rfl rfl ?_; simp only [Act.put, List.setIfInBounds_toArray, List.set_cons_zero, List.set_cons_succ]) | (refine wpR_skipU rfl rfl rfl rfl rfl ?_; simp only [Act.put, List.setIfInBounds_toArray, List.set_cons_zero, List.set_cons_succ]) | (refine wpR_do rfl rfl (fun K hK => ?_)) | (refine wpR_doG rfl rfl rfl rfl rfl (fun K hK => ?_)) | (refine wpR_last rfl rfl (fun K hK => ?_)) | (refine wpR_nil ?_)) | ((with_reducible refine wpR_go ?_ ?_); (focus (show Grew _ _; repeat (first | (with_reducible exact Grew.refl _) | (with_reducible assumption) | (with_reducible exact Grew.same_o) | (with_reducible exact Grew.app_o) | (with_reducible refine Grew.ext ?_ _ _) | (with_reducible refine Grew.alloc ?_ _) | ((with_reducible refine Grew.setCell ?_ ?_ _); rotate_left; (focus (dsimp only; first | omega | (simp only [size_ext, World.size_alloc, Array.size_append]; omega)))) | (with_reducible refine Grew.drewN ?_ _) | (with_reducible refine Grew.drew ?_))))) | ((with_reducible refine upon_id ?_); refine upon_fop rfl (by assumption) (by assumption) ?_; intro rr nn hr))
          go_roundw
          case rel => exact ⟨k + 1, Di, m'.set (i + k) Mo, o, n + 1, hkl, rfl, by go_num, by rw [← ia_set, HI.out], by simp; exact HML'.out, hmD'.set _ hMo16, hDi16, HST.out⟩
          case measure => simp [intOf]; omega
        · have e : k = lb := by omega
          have hV2 : dv m' + y * 65536 ^ (i + lb) = TT := by
            rw [e] at hV'
            rw [hV', HDSB.out, HT.out]
          clear hV'
          subst e
          go_wp2
          go_loopw [7, 9] (fun u c wx => ∃ (K : Nat) (y : Nat) (m' : List Nat) (o : Array Obj) (n : Nat), i + k ≤ K ∧ K ≤ la + k + 1 ∧ u = .int .i64 y ∧ c = .int .i64 K ∧ wx = ext (upd V g (ia m')) o n ∧ m'.length = la + k + 1 ∧ Dg m' ∧ y < 65536 ∧ dv m' + y * 65536 ^ K = TT) (fun _ c _ => la + k + 1 - (intOf c).toNat)
          case atStart => exact ⟨i + k, y, m', o, n, Nat.le_refl _, by omega, rfl, by go_num, rfl, hml', hmD', hy, hV2⟩
          case round =>
            obtain ⟨K, y, m', o, n, hK, hK2, rfl, rfl, rfl, hml', hmD', hy, hV'⟩ := hrel
            by_cases hy0 : y = 0
            · subst hy0
              have hfin : dv m' = ds fa (i + 1) * DB := by rw [← HTT.out, ← hV']; simp
              clear hV'
              go_wp2
              go_roundw
              case rel => exact ⟨i + 1, m', o, n, hlt, by go_num, rfl, hml', hmD', hfin⟩
              case measure => simp [intOf]; omega
            · have hKlt : K < la + k + 1 := by
                rcases Nat.lt_or_ge K (la + k) with h | h
                · omega
                · exfalso
                  have h1 : 65536 ^ (la + k) ≤ 65536 ^ K := Nat.pow_le_pow_right (by decide) h
                  have h2 : 1 * 65536 ^ K ≤ y * 65536 ^ K := Nat.mul_le_mul_right _ (by omega)
                  have := HTL.out
                  omega
              obtain ⟨Z, hZ⟩ : ∃ Z, Z = m'.getD K 0 := ⟨_, rfl⟩
              have hZ16 : Z < 65536 := by rw [hZ]; exact hmD'.get _
              have hmi : (upd V g (ia m')).cell? ⟨g, K, none⟩ = some (.int .i64 (Z : Int)) := by rw [hB.get (by omega), hZ]
              have hms := mul_step (l := m') (i := K) (c := y) (a := 0) (b := 0) (by omega)
              rw [← hZ, Nat.zero_mul, Nat.zero_mul, Nat.add_zero, Nat.add_zero, hV'] at hms
              obtain ⟨S, hS⟩ : ∃ S, S = y + Z := ⟨_, rfl⟩
              rw [← hS] at hms
              obtain ⟨Mo, hMo⟩ : ∃ Mo, Mo = S % 65536 := ⟨_, rfl⟩
              obtain ⟨Di, hDi⟩ : ∃ Di, Di = S / 65536 := ⟨_, rfl⟩
              have w3 : IntKind.i64.wrap ((y : Int) + Z) = (S : Int) := by rw [IntWalk.i64_in _ (by omega)]; omega
              have w4 : (y : Int) + Z = (S : Int) := by omega
              have m1 : (S : Int).tmod 65536 = (Mo : Int) := by rw [Int.tmod_eq_emod_of_nonneg (by omega)]; omega
              have m2 : (S : Int).tdiv 65536 = (Di : Int) := by rw [Int.tdiv_eq_ediv_of_nonneg (by omega)]; omega
              have m1' : (S : Int) % 65536 = (Mo : Int) := by omega
              have m2' : (S : Int) / 65536 = (Di : Int) := by omega
              have hMo16 : Mo < 65536 := by omega
              have hDi16 : Di < 65536 := by omega
              have hKltZ : ((K : Int) < (la : Int) + k + 1) = True := by simp; omega
              have hypos : decide (0 < (y : Int)) = true := by simp; omega
              rw [← hMo, ← hDi] at hms
              have HST := hid hms
              have HML' := hid hml'
              have HK := hid hKlt
              clear hms hZ hS hMo hDi hV' hml'
              go_wp2
              go_roundw
              case rel => exact ⟨K + 1, Di, m'.set K Mo, o, n, by omega, HK.out, rfl, by go_num, by rw [← ia_set], by simp; exact HML'.out, hmD'.set _ hMo16, hDi16, HST.out⟩
              case measure => simp [intOf]; omega
    · have e : i = la := by omega
      have hdv : dv m = DA * DB := by rw [hmV, e, HDS.out]
      have hns : NS (ext (upd V g (ia m)) o n) (.slice (some ⟨g, 0, none⟩) (la + lb + 1) (la + lb + 1)) m := by
        have h5 := hB.mk' m o n
        have h6 := h5.ns (cap := la + lb + 1) (by rw [hml]; exact Nat.le_refl _)
        rw [hml] at h6
        exact h6
      have aQ : IntKind.i64.wrap (E + F) = E + F := IntWalk.i64_in _ (by omega)
      have HDV := hid hdv
      have HH := hid hml
      subst e
      clear hdv hmV hml
      go_wp2_with (first | (go_at_call 120; ((with_reducible refine (hmade _ m _ hns hmD HH.out HDV.out).mono ?_); rintro e w1 ⟨v, rfl, hv, hbk, o2, n2, rfl⟩; obtain ⟨vn, va, vl, vc, vE, rfl⟩ := hv.shape)))
      have hbk2 : ∀ k, dBlock (.agg #[.bool vn, .slice va vl vc, .int .i64 vE]) = some k → k = g := fun k hk => by have := hbk k hk; cases this; rfl
      rw [ext_ext] at hv
      have gX : Grew w (upd V g (ia m)) := gw.upd (by omega) _
      have kX : w.heap.size + 1 + 1 < (upd V g (ia m)).heap.size := by simpa using k3
      have cX : ∀ i, (upd V g (ia m)).cell? ⟨w.heap.size + 1 + 1, i, none⟩ = (#[.bool false, .slice none 0 0, .int .i64 0] : Array Value)[i]? := fun i => by rw [cell_upd_ne n3', c3]
      generalize upd V g (ia m) = X at *
      clear hmade hB hns c1 c2 c3 fz fz2 HDV HH hbk HCA HCB HFA HFB HDS HDSB HDVB HDSA k1 k2 k3 gw gV g0
      refine bodyPost_ret (by simp [results, Try.results28, go_sem, kX, cX]; rfl) rfl ?_
      exact ⟨_, rfl, hv.ext_set3 kX (fun k hk => by have := hbk2 k hk; omega) _ _ _, fun k hk => by have := hbk2 k hk; omega, grew_set3 gX (by omega) _ _ _ _ _⟩
end Go.Proofs.Ytcmggfpcbijcjaa
end
section
/-
  Plain: lists of finite numbers.
-/
set_option linter.unusedSimpArgs false
set_option linter.unusedVariables false
open Go Go.RowKit Sedge
namespace Go.Proofs.Ytcmggfpcbijcjaa
end Go.Proofs.Ytcmggfpcbijcjaa
end
section
/-
  The walk of the law LacnBelow (layer 20).
-/
set_option linter.unusedSimpArgs false
set_option linter.unusedVariables false
open Go Go.RowKit Sedge
namespace Go.Proofs.Ytcmggfpcbijcjaa
set_option maxRecDepth 100000 in
set_option maxHeartbeats 8000000 in
theorem lac_main (aL : Option Addr) (cL : Nat) (ls : List Int) (u k : Nat) (hu : u < 256) (ek : (1 + (u : Int) % 12) = (k : Int)) (w : World) (hL : IS .i16 w (.slice aL ls.length cL) ls) (bL : ∀ k, (ls.getD k 0).natAbs ≤ 32768) (c1 : k * k ≤ ls.length) (c2 : ls.length ≤ 1000) :
    Calls Try.prog 23 #[.slice aL ls.length cL, .int .u8 u] w (fun e w' => e = .returned (.bool true) ∧ ∃ o n, w' = ext w o n) := by
  have h1 : 1 ≤ k := by omega
  have h2 : k ≤ 12 := by omega
  have hkk : k * k ≤ 12 * 12 := Nat.mul_le_mul h2 h2
  have kk1 : 1 ≤ k * k := Nat.mul_le_mul h1 h1
  have rw0 : IntKind.i64.wrap ((k : Int) * k) = (k : Int) * k := IntWalk.i64_in _ (by rw [← Int.natCast_mul]; omega)
  have d1 : decide ((ls.length : Int) < (k : Int) * k) = false := by rw [← Int.natCast_mul]; simp; omega
  have d2 : decide ((1000 : Int) < (ls.length : Int)) = false := by simp; omega
  have HL := hid hL
  have HbL := hid bL
  clear hL bL
  go_enter Try.func23, Try.ntmps23
  go_upto_region 6 with (first | (go_at_call 114; ((with_reducible refine (awake20 _).mono ?_); rintro e w1 ⟨rfl, o1, n1, rfl⟩)))
  refine name_any (fun W hW => ?_)
  have g0 : Grew w W := by rw [← hW]; (show Grew _ _; (try simp only [← Array.append_assoc]); repeat (first | (with_reducible exact Grew.same_o) | (with_reducible exact Grew.refl _) | (with_reducible assumption) | (with_reducible refine Grew.alloc ?_ _) | (with_reducible refine Grew.app_r ?_) | ((with_reducible refine Grew.setCell ?_ ?_ _); rotate_left; (focus (dsimp only; first | omega | (simp only [size_ext, World.size_alloc, Array.size_append]; omega)))) | (with_reducible refine Grew.ext ?_ _ _) | (with_reducible refine Grew.drewN ?_ _) | (with_reducible refine Grew.drew ?_)))
  have hLW := HL.out.grew g0
  clear hW d1 d2 HL
  go_upto_region 7 with (first | (go_at_call 68; ((with_reducible refine (rnewc_any k k _ (by omega) (by omega)).mono ?_); rintro e w1 ⟨g, rfl, hg, hF, o2, n2, rfl⟩)))
  refine name_any (fun V hV => ?_)
  obtain ⟨p6, hp6⟩ : ∃ p, p = W.heap.size + o2.size := ⟨_, rfl⟩
  have gV : Grew W V := by rw [← hV]; (show Grew _ _; (try simp only [← Array.append_assoc]); repeat (first | (with_reducible exact Grew.same_o) | (with_reducible exact Grew.refl _) | (with_reducible assumption) | (with_reducible refine Grew.alloc ?_ _) | (with_reducible refine Grew.app_r ?_) | ((with_reducible refine Grew.setCell ?_ ?_ _); rotate_left; (focus (dsimp only; first | omega | (simp only [size_ext, World.size_alloc, Array.size_append]; omega)))) | (with_reducible refine Grew.ext ?_ _ _) | (with_reducible refine Grew.drewN ?_ _) | (with_reducible refine Grew.drew ?_)))
  have X6 : Box V p6 #[.int .i64 k, .int .i64 k, .slice (some ⟨g, 0, none⟩) (k * k) (k * k)] := by rw [← hV]; exact Box.new' (by rw [hp6]; simp only [size_ext])
  have F0 : FW V g (List.replicate (k * k) 0) := by rw [← hV]; exact hF.grew (by (show Grew _ _; (try simp only [← Array.append_assoc]); repeat (first | (with_reducible exact Grew.same_o) | (with_reducible exact Grew.refl _) | (with_reducible assumption) | (with_reducible refine Grew.alloc ?_ _) | (with_reducible refine Grew.app_r ?_) | ((with_reducible refine Grew.setCell ?_ ?_ _); rotate_left; (focus (dsimp only; first | omega | (simp only [size_ext, World.size_alloc, Array.size_append]; omega)))) | (with_reducible refine Grew.ext ?_ _ _) | (with_reducible refine Grew.drewN ?_ _) | (with_reducible refine Grew.drew ?_))))
  have lg := hF.lt
  simp only [size_ext] at lg hg
  have n6g : p6 ≠ g := by omega
  have zg : W.heap.size ≤ g := by omega
  have z6 : W.heap.size ≤ p6 := by omega
  simp only [← hp6]
  clear hV hp6 hF hg lg
  go_wp2
  go_loopw [7] (fun c1 wr => ∃ (i : Nat) (L : List Nat), i ≤ k * k ∧ c1 = .int .i64 i ∧ But V [g] wr ∧ FW wr g L ∧ FT ls k i L) (fun c1 _ => k * k - (intOf c1).toNat)
  case atStart => exact ⟨0, _, Nat.zero_le _, rfl, But.refl _ _, F0, by simp, fun t ht => by omega⟩
  case round =>
    clear F0
    obtain ⟨i, L, hi, rfl, hB, FL, hFT⟩ := hrel
    have B6 := Box.but2 X6 hB (by simp; omega)
    have t6 := B6.cell
    have l6 := B6.lt
    have gr : Grew W wr := hB.grew0 gV (by intro q hq; simp at hq; omega)
    by_cases hlt : i < k * k
    · have d1 : decide ((i : Int) < (k : Int) * k) = true := by rw [← Int.natCast_mul]; simp; omega
      obtain ⟨bl, ol, e, kbl, hlc⟩ := hLW.at.2 (by omega)
      subst e
      have hl0 := hlc i (by omega)
      obtain ⟨y, hy⟩ : ∃ y, y = ls.getD i 0 := ⟨_, rfl⟩
      rw [← hy] at hl0
      have hl1 := (gr.cell kbl).trans hl0
      have kbl1 := Nat.lt_of_lt_of_le kbl gr.below.size
      have hyb : y.natAbs ≤ 32768 := by rw [hy]; exact HbL.out i
      have HY := hid hy
      have y64 : IntKind.i64.wrap y = y := IntWalk.i64_in _ (by omega)
      have yr := rem1001 y
      have fy : IsF (floatOfInt .f64 (y.tmod 1001)) (fint (y.tmod 1001)) := fint_isF (by omega)
      have hil : i < ls.length := by omega
      have hi3 : (i : Int) < (k : Int) * k := by rw [← Int.natCast_mul]; omega
      have eL := hFT.1
      obtain ⟨b0, hb0, hx0⟩ := FL.get (i := i) (by omega)
      have fz := FL.notFrozen
      have lgw := FL.lt
      have HFT := hid hFT
      clear hlc hl0 hy hx0 hFT
      go_wp2
      refine wp_region_R (Grew wr) [11] [(3,0), (0,1), (3,2), (3,3), (3,4), (3,5), (0,6), (3,7), (3,8), (3,9), (3,10), (2,11)] (by kernel_rfl) (by kernel_rfl) (fun _ _ _ _ h _ => h) (by first | exact ⟨_, _, ext_drew⟩ | exact ⟨_, _, drew_ext0⟩ | (show Grew _ _; repeat (first | (with_reducible exact Grew.refl _) | (with_reducible assumption) | (with_reducible exact Grew.same_o) | (with_reducible exact Grew.app_o) | (with_reducible refine Grew.ext ?_ _ _) | (with_reducible refine Grew.alloc ?_ _) | ((with_reducible refine Grew.setCell ?_ ?_ _); rotate_left; (focus (dsimp only; first | omega | (simp only [size_ext, World.size_alloc, Array.size_append]; omega)))) | (with_reducible refine Grew.drewN ?_ _) | (with_reducible refine Grew.drew ?_)))) ?_
      go_wp2_with (first | ((with_reducible refine wpR_id ?_); first | (refine wpR_take (v := ?_) rfl rfl ?_ ?_; rotate_left; (focus (rintro w' ⟨o', n', rfl⟩; go_simp; try with_reducible rfl)); simp only [Act.put, List.setIfInBounds_toArray, List.set_cons_zero, List.set_cons_succ]) | (refine wpR_pure (v := ?_) rfl rfl ?_ ?_; rotate_left; (focus (intro w'; go_simp; try with_reducible rfl)); simp only [Act.put, List.setIfInBounds_toArray, List.set_cons_zero, List.set_cons_succ]) | (refine wpR_takeG (v := ?_) rfl rfl rfl rfl rfl ?_ ?_; rotate_left; (focus (rintro w' ⟨o', n', rfl⟩; go_simp; try with_reducible rfl)); simp only [Act.put, List.setIfInBounds_toArray, List.set_cons_zero, List.set_cons_succ]) | (refine wpR_skip rfl rfl rfl rfl rfl rfl ?_; simp only [Act.put, List.setIfInBounds_toArray, List.set_cons_zero, List.set_cons_succ]) | (refine wpR_skipU rfl rfl rfl rfl rfl ?_; simp only [Act.put, List.setIfInBounds_toArray, List.set_cons_zero, List.set_cons_succ]) | (refine wpR_do rfl rfl (fun K hK => ?_)) | (refine wpR_doG rfl rfl rfl rfl rfl (fun K hK => ?_)) | (refine wpR_last rfl rfl (fun K hK => ?_)) | (refine wpR_nil ?_)) | ((with_reducible refine wpR_go ?_ ?_); (focus (show Grew _ _; repeat (first | (with_reducible exact Grew.refl _) | (with_reducible assumption) | (with_reducible exact Grew.same_o) | (with_reducible exact Grew.app_o) | (with_reducible refine Grew.ext ?_ _ _) | (with_reducible refine Grew.alloc ?_ _) | ((with_reducible refine Grew.setCell ?_ ?_ _); rotate_left; (focus (dsimp only; first | omega | (simp only [size_ext, World.size_alloc, Array.size_append]; omega)))) | (with_reducible refine Grew.drewN ?_ _) | (with_reducible refine Grew.drew ?_))))) | ((with_reducible refine upon_id ?_); refine upon_fop rfl (by assumption) (by assumption) ?_; intro rr nn hr))
      go_roundw
      case rel =>
        refine ⟨i + 1, L.set i (fint (y.tmod 1001)), hlt, by go_num, (hB.setCell (a := ⟨g, i, none⟩) (.inl (by simp)) _).grew (by (show Grew _ _; (try simp only [← Array.append_assoc]); repeat (first | (with_reducible exact Grew.same_o) | (with_reducible exact Grew.refl _) | (with_reducible assumption) | (with_reducible refine Grew.alloc ?_ _) | (with_reducible refine Grew.app_r ?_) | ((with_reducible refine Grew.setCell ?_ ?_ _); rotate_left; (focus (dsimp only; first | omega | (simp only [size_ext, World.size_alloc, Array.size_append]; omega)))) | (with_reducible refine Grew.ext ?_ _ _) | (with_reducible refine Grew.drewN ?_ _) | (with_reducible refine Grew.drew ?_)))), (FL.setc fy).grew (by (show Grew _ _; (try simp only [← Array.append_assoc]); repeat (first | (with_reducible exact Grew.same_o) | (with_reducible exact Grew.refl _) | (with_reducible assumption) | (with_reducible refine Grew.alloc ?_ _) | (with_reducible refine Grew.app_r ?_) | ((with_reducible refine Grew.setCell ?_ ?_ _); rotate_left; (focus (dsimp only; first | omega | (simp only [size_ext, World.size_alloc, Array.size_append]; omega)))) | (with_reducible refine Grew.ext ?_ _ _) | (with_reducible refine Grew.drewN ?_ _) | (with_reducible refine Grew.drew ?_)))), by rw [List.length_set]; exact eL, fun t ht => ?_⟩
        by_cases e : i = t
        · subst e; rw [List.getD_eq_getElem?_getD, List.getElem?_set_self (by omega), HY.out]; rfl
        · rw [List.getD_eq_getElem?_getD, List.getElem?_set_ne e, ← List.getD_eq_getElem?_getD]
          exact HFT.out.2 t (by omega)
      case measure => simp [intOf]; omega
    · have e : i = k * k := by omega
      subst e
      have d1 : decide (((k * k : Nat) : Int) < (k : Int) * k) = false := by rw [← Int.natCast_mul]; simp
      have d1' : decide ((k : Int) * k < (k : Int) * k) = false := by simp
      have hde := fun w' (gg : Grew wr w') => dense_cap k k (k * k) (some ⟨g, 0, none⟩) L w' (by have := (FL.grew gg).fs (by have := hFT.1; omega) (k * k); rw [hFT.1] at this ⊢; exact this) (by omega) (by omega) h1 h1 hFT.1 (by rw [hFT.1]; exact Nat.le_refl _)
      rw [hFT.1] at hde
      have lD : (denseL k k L).length = k * k := by simp [denseL, denseTo]
      have HFT := hid hFT
      have hest := fun ga ca w' (hA : FW w' ga (denseL k k L)) => lac_est ls k h1 h2 L HFT.out ga ca w' hA
      obtain ⟨DL, hDL⟩ : ∃ DL, DL = denseL k k L := ⟨_, rfl⟩
      rw [← hDL] at hde lD hest
      clear hFT hDL
      go_upto_region 12 with (first | (go_at_call 69; ((with_reducible refine (hde _ (by (show Grew _ _; (try simp only [← Array.append_assoc]); repeat (first | (with_reducible exact Grew.same_o) | (with_reducible exact Grew.refl _) | (with_reducible assumption) | (with_reducible refine Grew.alloc ?_ _) | (with_reducible refine Grew.app_r ?_) | ((with_reducible refine Grew.setCell ?_ ?_ _); rotate_left; (focus (dsimp only; first | omega | (simp only [size_ext, World.size_alloc, Array.size_append]; omega)))) | (with_reducible refine Grew.ext ?_ _ _) | (with_reducible refine Grew.drewN ?_ _) | (with_reducible refine Grew.drew ?_))))).mono ?_); rintro e w2 ⟨v, rfl, ⟨gm, cm, rfl, hgm, hFm, hlm⟩, hw2⟩; (rw [lD]))) | (go_at_call 115; ((with_reducible refine (hest gm cm _ hFm).mono ?_); rintro e w3 ⟨r, asks, E, rfl, hr, hE, hw3⟩)))
      have hEs := hE
      obtain ⟨qE, fE, uE, lE⟩ := hE
      have hfl : finL [E] = true := by
        have := fE.2.1
        rw [fin_kind fE.1] at this
        simpa [finL, finB] using this
      have hfi : ∀ D w', FS w' D [E] → Calls Try.prog 25 #[D] w' (fun e w2 => e = .returned (.bool true) ∧ w' = w2) := fun D w' h => by have := finite_any D [E] w' h; rw [hfl] at this; exact this
      clear hest hde
      go_upto_region 14 with (first | (go_at_call 25; ((with_reducible refine (hfi _ _ (FS_one hr _ rfl)).mono ?_); rintro e w4 ⟨rfl, rfl⟩)))
      refine name_any (fun U hU => ?_)
      have gU : Grew wr U := by rw [← hU]; exact Grew.trans (Grew.trans (show Grew wr w2 from hw2) (show Grew w2 w3 from hw3)) (by (show Grew _ _; (try simp only [← Array.append_assoc]); repeat (first | (with_reducible exact Grew.same_o) | (with_reducible exact Grew.refl _) | (with_reducible assumption) | (with_reducible refine Grew.alloc ?_ _) | (with_reducible refine Grew.app_r ?_) | ((with_reducible refine Grew.setCell ?_ ?_ _); rotate_left; (focus (dsimp only; first | omega | (simp only [size_ext, World.size_alloc, Array.size_append]; omega)))) | (with_reducible refine Grew.ext ?_ _ _) | (with_reducible refine Grew.drewN ?_ _) | (with_reducible refine Grew.drew ?_))))
      have gwU := Grew.trans g0 (Grew.trans gr gU)
      have Z6 := B6.grew gU
      have hTU := (FL.grew gU)
      clear hU hw2 hw3 hFm hlm hgm hfi hfl FL B6 t6 l6 gr hB X6 gV lD hLW hEs
      have eL := HFT.out.1
      have hAt : ∀ (i j : Nat) w', i < k → j < k → Grew U w' → Calls Try.prog 72 #[.agg #[.int .i64 k, .int .i64 k, .slice (some ⟨g, 0, none⟩) (k * k) (k * k)], .int .i64 i, .int .i64 j] w' (fun e w2 => ∃ b, e = .returned (.float .f64 b) ∧ IsF b (L.getD (i * k + j) 0) ∧ ∃ o n, w2 = ext w' o n) := fun i j w' hi hj gg => by
        have h := (hTU.grew gg).fs (by omega) (k * k)
        rw [eL] at h
        have hk : i * k + j < k * k := by
          have := Nat.mul_le_mul_right k (show i + 1 ≤ k by omega)
          rw [Nat.add_mul] at this; omega
        exact rat_any k k i j _ L w' h (by omega) (by omega) (by omega) (by omega) (by omega)
      have hval : ∀ i j, i < k → j < k → val (L.getD (i * k + j) 0) = ((aW ls k i j : Int) : Rat) := fun i j hi hj => (HFT.out.wi hi hj).2.2
      have HV := hid hval
      have HU := hid uE
      have HLE := hid lE
      have HFE := hid fE
      have t6 : ∀ w', Grew U w' → ∀ i, w'.cell? ⟨p6, i, none⟩ = (#[.int .i64 k, .int .i64 k, .slice (some ⟨g, 0, none⟩) (k * k) (k * k)] : Array Value)[i]? := fun w' gg => (Z6.grew gg).cell
      have l6 := Z6.lt
      clear hval uE lE fE HFT eL hTU
      go_upto_region 15 with fail
      refine name_any (fun U1 hU1 => ?_)
      obtain ⟨p11, hp11⟩ : ∃ p, p = U.heap.size := ⟨_, rfl⟩
      have gU1 : Grew U U1 := by rw [← hU1]; (show Grew _ _; (try simp only [← Array.append_assoc]); repeat (first | (with_reducible exact Grew.same_o) | (with_reducible exact Grew.refl _) | (with_reducible assumption) | (with_reducible refine Grew.alloc ?_ _) | (with_reducible refine Grew.app_r ?_) | ((with_reducible refine Grew.setCell ?_ ?_ _); rotate_left; (focus (dsimp only; first | omega | (simp only [size_ext, World.size_alloc, Array.size_append]; omega)))) | (with_reducible refine Grew.ext ?_ _ _) | (with_reducible refine Grew.drewN ?_ _) | (with_reducible refine Grew.drew ?_)))
      have X11 : Box U1 p11 #[.bool false, .slice none 0 0, .int .i64 0] := by rw [← hU1]; exact Box.new' hp11
      have z11 : U.heap.size ≤ p11 := by omega
      simp only [← hp11]
      clear hU1 hp11
      go_wp2
      go_loopw [12] (fun c1 wx => ∃ (j : Nat) (na : Bool) (aa : Option Addr) (an ac : Nat) (aE : Int), j ≤ k ∧ c1 = .int .i64 j ∧ Grew U wx ∧ Box wx p11 #[.bool na, .slice aa an ac, .int .i64 aE] ∧ DV wx (.agg #[.bool na, .slice aa an ac, .int .i64 aE]) (normQ (aW ls k) k j) (-70) 90 ∧ dNot (.agg #[.bool na, .slice aa an ac, .int .i64 aE]) [p11]) (fun c1 _ => k - (intOf c1).toNat)
      case atStart => exact ⟨0, false, none, 0, 0, 0, Nat.zero_le _, rfl, gU1, X11, DV.none, fun kk hk => by simp [dBlock, Value.ownBlock] at hk⟩
      case round =>
        clear X11 gU1
        obtain ⟨j, na, aa, an, ac, aE, hj, rfl, gx, B11, hDn, qn⟩ := hrel
        by_cases hlt : j < k
        · go_upto_region 19 with fail
          refine name_any (fun V1 hV1 => ?_)
          obtain ⟨p13, hp13⟩ : ∃ p, p = wr.heap.size := ⟨_, rfl⟩
          have gV1 : Grew wr V1 := by rw [← hV1]; (show Grew _ _; (try simp only [← Array.append_assoc]); repeat (first | (with_reducible exact Grew.same_o) | (with_reducible exact Grew.refl _) | (with_reducible assumption) | (with_reducible refine Grew.alloc ?_ _) | (with_reducible refine Grew.app_r ?_) | ((with_reducible refine Grew.setCell ?_ ?_ _); rotate_left; (focus (dsimp only; first | omega | (simp only [size_ext, World.size_alloc, Array.size_append]; omega)))) | (with_reducible refine Grew.ext ?_ _ _) | (with_reducible refine Grew.drewN ?_ _) | (with_reducible refine Grew.drew ?_)))
          have X13 : Box V1 p13 #[.bool false, .slice none 0 0, .int .i64 0] := by rw [← hV1]; exact Box.new' hp13
          have z13 : wr.heap.size ≤ p13 := by omega
          have l11 := B11.lt
          have n1113 : p11 ≠ p13 := by omega
          obtain ⟨W0, hW0⟩ : ∃ W0, W0 = wr := ⟨_, rfl⟩
          simp only [← hp13]
          rw [← hW0] at gx B11 hDn gV1 z13 l11
          clear hV1 hp13 hW0
          go_wp2
          go_loopw [14] (fun c1 wx => ∃ (i : Nat) (nb : Bool) (ba : Option Addr) (bn bc : Nat) (bE : Int), i ≤ k ∧ c1 = .int .i64 i ∧ Grew W0 wx ∧ Box wx p13 #[.bool nb, .slice ba bn bc, .int .i64 bE] ∧ DV wx (.agg #[.bool nb, .slice ba bn bc, .int .i64 bE]) (sumQ (fun i => ((aW ls k i j : Int) : Rat).abs) i) (-70) (70 + i) ∧ dNot (.agg #[.bool nb, .slice ba bn bc, .int .i64 bE]) [p13, p11]) (fun c1 _ => k - (intOf c1).toNat)
          case atStart => exact ⟨0, false, none, 0, 0, 0, Nat.zero_le _, rfl, gV1, X13, DV.none, fun kk hk => by simp [dBlock, Value.ownBlock] at hk⟩
          case round =>
            clear X13 gV1
            obtain ⟨i, nb, ba, bn, bc, bE, hi, rfl, gw, B13, hDs, qs⟩ := hrel
            have l13 := B13.lt
            have t13 := B13.cell
            have f13 := B13.frozen
            have gUw : Grew U wr := Grew.trans gx gw
            have zw := gw.below.size
            by_cases hil : i < k
            · have tt := t6 _ gUw
              have lt6 : p6 < wr.heap.size := Nat.lt_of_lt_of_le l6 gUw.below.size
              have hva : val (L.getD (i * k + j) 0) = ((aW ls k i j : Int) : Rat) := HV.out i j hil hlt
              have HA := hid hva
              clear hva
              go_wp2
              refine wp_region_R (Grew wr) [8] [(0,0), (0,1), (3,2), (3,3), (1,4), (1,5), (1,6), (1,7), (2,8)] (by kernel_rfl) (by kernel_rfl) (fun _ _ _ _ h _ => h) (by first | exact ⟨_, _, ext_drew⟩ | exact ⟨_, _, drew_ext0⟩ | (show Grew _ _; repeat (first | (with_reducible exact Grew.refl _) | (with_reducible assumption) | (with_reducible exact Grew.same_o) | (with_reducible exact Grew.app_o) | (with_reducible refine Grew.ext ?_ _ _) | (with_reducible refine Grew.alloc ?_ _) | ((with_reducible refine Grew.setCell ?_ ?_ _); rotate_left; (focus (dsimp only; first | omega | (simp only [size_ext, World.size_alloc, Array.size_append]; omega)))) | (with_reducible refine Grew.drewN ?_ _) | (with_reducible refine Grew.drew ?_)))) ?_
              go_upto_region 21 with (first | ((with_reducible refine wpR_id ?_); first | (refine wpR_take (v := ?_) rfl rfl ?_ ?_; rotate_left; (focus (rintro w' ⟨o', n', rfl⟩; go_simp; try with_reducible rfl)); simp only [Act.put, List.setIfInBounds_toArray, List.set_cons_zero, List.set_cons_succ]) | (refine wpR_pure (v := ?_) rfl rfl ?_ ?_; rotate_left; (focus (intro w'; go_simp; try with_reducible rfl)); simp only [Act.put, List.setIfInBounds_toArray, List.set_cons_zero, List.set_cons_succ]) | (refine wpR_takeG (v := ?_) rfl rfl rfl rfl rfl ?_ ?_; rotate_left; (focus (rintro w' ⟨o', n', rfl⟩; go_simp; try with_reducible rfl)); simp only [Act.put, List.setIfInBounds_toArray, List.set_cons_zero, List.set_cons_succ]) | (refine wpR_skip rfl rfl rfl rfl rfl rfl ?_; simp only [Act.put, List.setIfInBounds_toArray, List.set_cons_zero, List.set_cons_succ]) | (refine wpR_skipU rfl rfl rfl rfl rfl ?_; simp only [Act.put, List.setIfInBounds_toArray, List.set_cons_zero, List.set_cons_succ]) | (refine wpR_do rfl rfl (fun K hK => ?_)) | (refine wpR_doG rfl rfl rfl rfl rfl (fun K hK => ?_)) | (refine wpR_last rfl rfl (fun K hK => ?_)) | (refine wpR_nil ?_)) | ((with_reducible refine wpR_go ?_ ?_); (focus (show Grew _ _; repeat (first | (with_reducible exact Grew.refl _) | (with_reducible assumption) | (with_reducible exact Grew.same_o) | (with_reducible exact Grew.app_o) | (with_reducible refine Grew.ext ?_ _ _) | (with_reducible refine Grew.alloc ?_ _) | ((with_reducible refine Grew.setCell ?_ ?_ _); rotate_left; (focus (dsimp only; first | omega | (simp only [size_ext, World.size_alloc, Array.size_append]; omega)))) | (with_reducible refine Grew.drewN ?_ _) | (with_reducible refine Grew.drew ?_))))) | ((with_reducible refine upon_id ?_); refine upon_fop rfl (by assumption) (by assumption) ?_; intro rr nn hr) | (go_at_call 72; ((with_reducible refine (hAt i j _ hil hlt (Grew.trans gUw (by (show Grew _ _; (try simp only [← Array.append_assoc]); repeat (first | (with_reducible exact Grew.same_o) | (with_reducible exact Grew.refl _) | (with_reducible assumption) | (with_reducible refine Grew.alloc ?_ _) | (with_reducible refine Grew.app_r ?_) | ((with_reducible refine Grew.setCell ?_ ?_ _); rotate_left; (focus (dsimp only; first | omega | (simp only [size_ext, World.size_alloc, Array.size_append]; omega)))) | (with_reducible refine Grew.ext ?_ _ _) | (with_reducible refine Grew.drewN ?_ _) | (with_reducible refine Grew.drew ?_)))))).mono ?_); rintro e w1 ⟨b3, rfl, hb3, o1, n1, rfl⟩)) | (go_at_call 27; ((with_reducible refine (of_any b3 _ _ hb3).mono ?_); rintro e w1 ⟨v4, rfl, hv4, hk4, o2, n2, rfl⟩; (try simp only [ext_drew, drew_ext, drewN_ext, ext_ext, Array.append_assoc] at hv4); (obtain ⟨s41, s42, s43, s44, s45, rfl⟩ := hv4.shape))) | (go_at_call 30; ((with_reducible refine (dabs_any _ _ _ _ _ hv4).mono ?_); rintro e w1 ⟨v5, rfl, hv5, hk5, o3, n3, rfl⟩; (try simp only [ext_drew, drew_ext, drewN_ext, ext_ext, Array.append_assoc] at hv5); (obtain ⟨s51, s52, s53, s54, s55, rfl⟩ := hv5.shape))) | (go_at_call 31; ((with_reducible refine (dadd_any _ _ _ _ (-70) (70 + i) _ (hDs.grew (by (show Grew _ _; (try simp only [← Array.append_assoc]); repeat (first | (with_reducible exact Grew.same_o) | (with_reducible exact Grew.refl _) | (with_reducible assumption) | (with_reducible refine Grew.alloc ?_ _) | (with_reducible refine Grew.app_r ?_) | ((with_reducible refine Grew.setCell ?_ ?_ _); rotate_left; (focus (dsimp only; first | omega | (simp only [size_ext, World.size_alloc, Array.size_append]; omega)))) | (with_reducible refine Grew.ext ?_ _ _) | (with_reducible refine Grew.drewN ?_ _) | (with_reducible refine Grew.drew ?_))))) ((hv5.grew (by (show Grew _ _; (try simp only [← Array.append_assoc]); repeat (first | (with_reducible exact Grew.same_o) | (with_reducible exact Grew.refl _) | (with_reducible assumption) | (with_reducible refine Grew.alloc ?_ _) | (with_reducible refine Grew.app_r ?_) | ((with_reducible refine Grew.setCell ?_ ?_ _); rotate_left; (focus (dsimp only; first | omega | (simp only [size_ext, World.size_alloc, Array.size_append]; omega)))) | (with_reducible refine Grew.ext ?_ _ _) | (with_reducible refine Grew.drewN ?_ _) | (with_reducible refine Grew.drew ?_))))).mono (by omega) (by omega)) (by omega) (by omega)).mono ?_); rintro e w1 ⟨v6, rfl, hv6, hk6, o4, n4, rfl⟩; (try simp only [ext_drew, drew_ext, drewN_ext, ext_ext, Array.append_assoc] at hv6); (obtain ⟨s61, s62, s63, s64, s65, rfl⟩ := hv6.shape))))
              refine name_any (fun Y hY => ?_)
              rw [B13.set3_ext rfl] at hY
              have gE : Grew wr (ext wr (o1 ++ (o2 ++ (o3 ++ o4))) n4) := ⟨_, _, rfl⟩
              have q6 : dNot (.agg #[.bool s61, .slice s62 s63 s64, .int .i64 s65]) [p13, p11] := dNot.of_new (b := wr.heap.size) (fun kk h1 _ => by have := hk6 kk h1; simp only [size_ext] at this; omega) (fun kk hk => by simp at hk; omega)
              have gY : Grew W0 Y := by rw [← hY]; exact (Grew.trans gw gE).upd z13 _
              have Y13 : Box Y p13 #[.bool s61, .slice s62 s63 s64, .int .i64 s65] := by rw [← hY]; exact (B13.grew gE).upd_self _
              have hDY : DV Y (.agg #[.bool s61, .slice s62 s63 s64, .int .i64 s65]) (sumQ (fun i => ((aW ls k i j : Int) : Rat).abs) (i + 1)) (-70) (70 + (i + 1 : Nat)) := by
                rw [← hY]
                rw [HA.out] at hv6
                exact (hv6.upd_not q6 (by simp) _).mono (by omega) (by omega)
              clear hY hv4 hv5 hv6 hk4 hk5 hk6 gE HA tt lt6 hb3
              go_wp2
              go_roundw
              case rel => exact ⟨i + 1, s61, s62, s63, s64, s65, hil, by go_num, gY, Y13, hDY, q6⟩
              case measure => simp [intOf]; omega
            · have e : i = k := by omega
              subst e
              have C11 := B11.grew gw
              have hDn' := hDn.grew gw
              have t11 := C11.cell
              have f11 := C11.frozen
              have l11' := C11.lt
              have z11' : U.heap.size ≤ p11 := z11
              have hsub := fun w' (gg : Grew wr w') => dcmp_any _ _ _ _ (-70) 90 w' (hDs.grew gg |>.mono (by omega) (by omega)) (hDn'.grew gg) (by omega) (by omega)
              by_cases hgt : normQ (aW ls i) i j < colQ (aW ls i) i j
              · have hs1 : sgE (sumQ (fun i_1 => ((aW ls i i_1 j : Int) : Rat).abs) i - normQ (aW ls i) i j) = 1 := by
                  have : (0 : Rat) < sumQ (fun i_1 => ((aW ls i i_1 j : Int) : Rat).abs) i - normQ (aW ls i) i j := by have h := hgt; unfold colQ at h; grind
                  unfold sgE; rw [if_neg (by grind), if_neg (by grind)]
                rw [hs1] at hsub
                have eN : normQ (aW ls i) i (j + 1) = sumQ (fun i_1 => ((aW ls i i_1 j : Int) : Rat).abs) i := by
                  show (if normQ (aW ls i) i j < colQ (aW ls i) i j then colQ (aW ls i) i j else normQ (aW ls i) i j) = _
                  rw [if_pos hgt]; rfl
                have EN := hid eN
                clear eN hs1 hgt
                go_upto_region 17 with (first | (go_at_call 34; ((with_reducible refine (hsub _ (by (show Grew _ _; (try simp only [← Array.append_assoc]); repeat (first | (with_reducible exact Grew.same_o) | (with_reducible exact Grew.refl _) | (with_reducible assumption) | (with_reducible refine Grew.alloc ?_ _) | (with_reducible refine Grew.app_r ?_) | ((with_reducible refine Grew.setCell ?_ ?_ _); rotate_left; (focus (dsimp only; first | omega | (simp only [size_ext, World.size_alloc, Array.size_append]; omega)))) | (with_reducible refine Grew.ext ?_ _ _) | (with_reducible refine Grew.drewN ?_ _) | (with_reducible refine Grew.drew ?_))))).mono ?_); rintro e w1 ⟨rfl, o1, n1, rfl⟩)))
                refine name_any (fun Y hY => ?_)
                rw [C11.set3_ext rfl] at hY
                have gE : Grew wr (ext wr o1 n1) := ⟨_, _, rfl⟩
                have gY : Grew U Y := by rw [← hY]; exact (Grew.trans gUw gE).upd z11 _
                have Y11 : Box Y p11 #[.bool nb, .slice ba bn bc, .int .i64 bE] := by rw [← hY]; exact (C11.grew gE).upd_self _
                have hDY : DV Y (.agg #[.bool nb, .slice ba bn bc, .int .i64 bE]) (normQ (aW ls i) i (j + 1)) (-70) 90 := by
                  rw [← hY, EN.out]
                  exact ((hDs.grew gE).upd_not qs (by simp) _).mono (by omega) (by omega)
                clear hY gE
                go_wp2
                go_roundw
                case rel => exact ⟨j + 1, nb, ba, bn, bc, bE, hlt, by go_num, gY, Y11, hDY, qs.mono (fun kk h => by simp at h ⊢; exact .inr h)⟩
                case measure => simp [intOf]; omega
              · have hs1 : decide ((0 : Int) < sgE (sumQ (fun i_1 => ((aW ls i i_1 j : Int) : Rat).abs) i - normQ (aW ls i) i j)) = false := by
                  have : ¬ (0 : Rat) < sumQ (fun i_1 => ((aW ls i i_1 j : Int) : Rat).abs) i - normQ (aW ls i) i j := by
                    intro h0
                    have h : ¬ normQ (aW ls i) i j < sumQ (fun i_1 => ((aW ls i i_1 j : Int) : Rat).abs) i := hgt
                    grind
                  unfold sgE
                  by_cases h0 : sumQ (fun i_1 => ((aW ls i i_1 j : Int) : Rat).abs) i - normQ (aW ls i) i j = 0
                  · rw [if_pos h0]; rfl
                  · rw [if_neg h0, if_pos (by grind)]; rfl
                have eN : normQ (aW ls i) i (j + 1) = normQ (aW ls i) i j := by
                  show (if normQ (aW ls i) i j < colQ (aW ls i) i j then colQ (aW ls i) i j else normQ (aW ls i) i j) = _
                  rw [if_neg hgt]
                have EN := hid eN
                clear eN hgt
                go_upto_region 17 with (first | (go_at_call 34; ((with_reducible refine (hsub _ (by (show Grew _ _; (try simp only [← Array.append_assoc]); repeat (first | (with_reducible exact Grew.same_o) | (with_reducible exact Grew.refl _) | (with_reducible assumption) | (with_reducible refine Grew.alloc ?_ _) | (with_reducible refine Grew.app_r ?_) | ((with_reducible refine Grew.setCell ?_ ?_ _); rotate_left; (focus (dsimp only; first | omega | (simp only [size_ext, World.size_alloc, Array.size_append]; omega)))) | (with_reducible refine Grew.ext ?_ _ _) | (with_reducible refine Grew.drewN ?_ _) | (with_reducible refine Grew.drew ?_))))).mono ?_); rintro e w1 ⟨rfl, o1, n1, rfl⟩)))
                refine name_any (fun Y hY => ?_)
                have gE : Grew wr Y := by rw [← hY]; (show Grew _ _; (try simp only [← Array.append_assoc]); repeat (first | (with_reducible exact Grew.same_o) | (with_reducible exact Grew.refl _) | (with_reducible assumption) | (with_reducible refine Grew.alloc ?_ _) | (with_reducible refine Grew.app_r ?_) | ((with_reducible refine Grew.setCell ?_ ?_ _); rotate_left; (focus (dsimp only; first | omega | (simp only [size_ext, World.size_alloc, Array.size_append]; omega)))) | (with_reducible refine Grew.ext ?_ _ _) | (with_reducible refine Grew.drewN ?_ _) | (with_reducible refine Grew.drew ?_)))
                clear hY
                go_wp2
                go_roundw
                case rel => exact ⟨j + 1, na, aa, an, ac, aE, hlt, by go_num, Grew.trans gUw gE, C11.grew gE, by rw [EN.out]; exact hDn'.grew gE, qn⟩
                case measure => simp [intOf]; omega
        · have e : k = j := by omega
          subst e
          have l11 := B11.lt
          obtain ⟨M0, hM0⟩ : ∃ M0, M0 = wr := ⟨_, rfl⟩
          go_upto_region 26 with fail
          refine name_any (fun Y hY => ?_)
          obtain ⟨p15, hp15⟩ : ∃ p, p = wr.heap.size := ⟨_, rfl⟩
          have gY : Grew wr Y := by rw [← hY]; (show Grew _ _; (try simp only [← Array.append_assoc]); repeat (first | (with_reducible exact Grew.same_o) | (with_reducible exact Grew.refl _) | (with_reducible assumption) | (with_reducible refine Grew.alloc ?_ _) | (with_reducible refine Grew.app_r ?_) | ((with_reducible refine Grew.setCell ?_ ?_ _); rotate_left; (focus (dsimp only; first | omega | (simp only [size_ext, World.size_alloc, Array.size_append]; omega)))) | (with_reducible refine Grew.ext ?_ _ _) | (with_reducible refine Grew.drewN ?_ _) | (with_reducible refine Grew.drew ?_)))
          have X15 : Box Y p15 #[.bool false, .slice none 0 0, .int .i64 0] := by rw [← hY]; exact Box.new' hp15
          have z15 : wr.heap.size ≤ p15 := by omega
          simp only [← hp15]
          clear hY hp15
          rw [← hM0] at gx B11 hDn gY z15 l11
          clear hM0 hlt hj
          go_wp2
          go_loopw [16] (fun c1 wx => ∃ (i : Nat) (ma : Bool) (mb : Option Addr) (mc md : Nat) (mE : Int), i ≤ k ∧ c1 = .int .i64 i ∧ Grew M0 wx ∧ Box wx p15 #[.bool ma, .slice mb mc md, .int .i64 mE] ∧ DV wx (.agg #[.bool ma, .slice mb mc md, .int .i64 mE]) (sumQ (fun i => (sumQ (fun j => ((aW ls k i j : Int) : Rat)) k).abs) i) (-70) (90 + i) ∧ dNot (.agg #[.bool ma, .slice mb mc md, .int .i64 mE]) [p15]) (fun c1 _ => k - (intOf c1).toNat)
          case atStart => exact ⟨0, false, none, 0, 0, 0, Nat.zero_le _, rfl, gY, X15, DV.none, fun kk hk => by simp [dBlock, Value.ownBlock] at hk⟩
          case round =>
            clear X15 gY
            obtain ⟨i, ma, mb, mc, md, mE, hi, rfl, gm, B15, hDm, qm⟩ := hrel
            by_cases hlt : i < k
            · have l15 := B15.lt
              go_upto_region 30 with fail
              refine name_any (fun V1 hV1 => ?_)
              obtain ⟨p17, hp17⟩ : ∃ p, p = wr.heap.size := ⟨_, rfl⟩
              have gV1 : Grew wr V1 := by rw [← hV1]; (show Grew _ _; (try simp only [← Array.append_assoc]); repeat (first | (with_reducible exact Grew.same_o) | (with_reducible exact Grew.refl _) | (with_reducible assumption) | (with_reducible refine Grew.alloc ?_ _) | (with_reducible refine Grew.app_r ?_) | ((with_reducible refine Grew.setCell ?_ ?_ _); rotate_left; (focus (dsimp only; first | omega | (simp only [size_ext, World.size_alloc, Array.size_append]; omega)))) | (with_reducible refine Grew.ext ?_ _ _) | (with_reducible refine Grew.drewN ?_ _) | (with_reducible refine Grew.drew ?_)))
              have X17 : Box V1 p17 #[.bool false, .slice none 0 0, .int .i64 0] := by rw [← hV1]; exact Box.new' hp17
              have z17 : wr.heap.size ≤ p17 := by omega
              have n1517 : p15 ≠ p17 := by omega
              obtain ⟨W0, hW0⟩ : ∃ W0, W0 = wr := ⟨_, rfl⟩
              simp only [← hp17]
              rw [← hW0] at gm B15 hDm gV1 z17 l15
              clear hV1 hp17 hW0
              go_wp2
              go_loopw [18] (fun c1 wx => ∃ (j : Nat) (nb : Bool) (ba : Option Addr) (bn bc : Nat) (bE : Int), j ≤ k ∧ c1 = .int .i64 j ∧ Grew W0 wx ∧ Box wx p17 #[.bool nb, .slice ba bn bc, .int .i64 bE] ∧ DV wx (.agg #[.bool nb, .slice ba bn bc, .int .i64 bE]) (sumQ (fun j => ((aW ls k i j : Int) : Rat)) j) (-70) (70 + j) ∧ dNot (.agg #[.bool nb, .slice ba bn bc, .int .i64 bE]) [p17, p15]) (fun c1 _ => k - (intOf c1).toNat)
              case atStart => exact ⟨0, false, none, 0, 0, 0, Nat.zero_le _, rfl, gV1, X17, DV.none, fun kk hk => by simp [dBlock, Value.ownBlock] at hk⟩
              case round =>
                clear X17 gV1
                obtain ⟨j, nb, ba, bn, bc, bE, hj, rfl, gw, B17, hDs, qs⟩ := hrel
                have l17 := B17.lt
                have t17 := B17.cell
                have f17 := B17.frozen
                have gUw : Grew U wr := Grew.trans gx (Grew.trans gm gw)
                have zw := gw.below.size
                by_cases hjl : j < k
                · have tt := t6 _ gUw
                  have lt6 : p6 < wr.heap.size := Nat.lt_of_lt_of_le l6 gUw.below.size
                  have hva : val (L.getD (i * k + j) 0) = ((aW ls k i j : Int) : Rat) := HV.out i j hlt hjl
                  have HA := hid hva
                  clear hva
                  go_wp2
                  refine wp_region_R (Grew wr) [7] [(0,0), (0,1), (3,2), (3,3), (1,4), (1,5), (1,6), (2,7)] (by kernel_rfl) (by kernel_rfl) (fun _ _ _ _ h _ => h) (by first | exact ⟨_, _, ext_drew⟩ | exact ⟨_, _, drew_ext0⟩ | (show Grew _ _; repeat (first | (with_reducible exact Grew.refl _) | (with_reducible assumption) | (with_reducible exact Grew.same_o) | (with_reducible exact Grew.app_o) | (with_reducible refine Grew.ext ?_ _ _) | (with_reducible refine Grew.alloc ?_ _) | ((with_reducible refine Grew.setCell ?_ ?_ _); rotate_left; (focus (dsimp only; first | omega | (simp only [size_ext, World.size_alloc, Array.size_append]; omega)))) | (with_reducible refine Grew.drewN ?_ _) | (with_reducible refine Grew.drew ?_)))) ?_
                  go_upto_region 32 with (first | ((with_reducible refine wpR_id ?_); first | (refine wpR_take (v := ?_) rfl rfl ?_ ?_; rotate_left; (focus (rintro w' ⟨o', n', rfl⟩; go_simp; try with_reducible rfl)); simp only [Act.put, List.setIfInBounds_toArray, List.set_cons_zero, List.set_cons_succ]) | (refine wpR_pure (v := ?_) rfl rfl ?_ ?_; rotate_left; (focus (intro w'; go_simp; try with_reducible rfl)); simp only [Act.put, List.setIfInBounds_toArray, List.set_cons_zero, List.set_cons_succ]) | (refine wpR_takeG (v := ?_) rfl rfl rfl rfl rfl ?_ ?_; rotate_left; (focus (rintro w' ⟨o', n', rfl⟩; go_simp; try with_reducible rfl)); simp only [Act.put, List.setIfInBounds_toArray, List.set_cons_zero, List.set_cons_succ]) | (refine wpR_skip rfl rfl rfl rfl rfl rfl ?_; simp only [Act.put, List.setIfInBounds_toArray, List.set_cons_zero, List.set_cons_succ]) | (refine wpR_skipU rfl rfl rfl rfl rfl ?_; simp only [Act.put, List.setIfInBounds_toArray, List.set_cons_zero, List.set_cons_succ]) | (refine wpR_do rfl rfl (fun K hK => ?_)) | (refine wpR_doG rfl rfl rfl rfl rfl (fun K hK => ?_)) | (refine wpR_last rfl rfl (fun K hK => ?_)) | (refine wpR_nil ?_)) | ((with_reducible refine wpR_go ?_ ?_); (focus (show Grew _ _; repeat (first | (with_reducible exact Grew.refl _) | (with_reducible assumption) | (with_reducible exact Grew.same_o) | (with_reducible exact Grew.app_o) | (with_reducible refine Grew.ext ?_ _ _) | (with_reducible refine Grew.alloc ?_ _) | ((with_reducible refine Grew.setCell ?_ ?_ _); rotate_left; (focus (dsimp only; first | omega | (simp only [size_ext, World.size_alloc, Array.size_append]; omega)))) | (with_reducible refine Grew.drewN ?_ _) | (with_reducible refine Grew.drew ?_))))) | ((with_reducible refine upon_id ?_); refine upon_fop rfl (by assumption) (by assumption) ?_; intro rr nn hr) | (go_at_call 72; ((with_reducible refine (hAt i j _ hlt hjl (Grew.trans gUw (by (show Grew _ _; (try simp only [← Array.append_assoc]); repeat (first | (with_reducible exact Grew.same_o) | (with_reducible exact Grew.refl _) | (with_reducible assumption) | (with_reducible refine Grew.alloc ?_ _) | (with_reducible refine Grew.app_r ?_) | ((with_reducible refine Grew.setCell ?_ ?_ _); rotate_left; (focus (dsimp only; first | omega | (simp only [size_ext, World.size_alloc, Array.size_append]; omega)))) | (with_reducible refine Grew.ext ?_ _ _) | (with_reducible refine Grew.drewN ?_ _) | (with_reducible refine Grew.drew ?_)))))).mono ?_); rintro e w1 ⟨b3, rfl, hb3, o1, n1, rfl⟩)) | (go_at_call 27; ((with_reducible refine (of_any b3 _ _ hb3).mono ?_); rintro e w1 ⟨v4, rfl, hv4, hk4, o2, n2, rfl⟩; (try simp only [ext_drew, drew_ext, drewN_ext, ext_ext, Array.append_assoc] at hv4); (obtain ⟨s41, s42, s43, s44, s45, rfl⟩ := hv4.shape))) | (go_at_call 31; ((with_reducible refine (dadd_any _ _ _ _ (-70) (70 + j) _ (hDs.grew (by (show Grew _ _; (try simp only [← Array.append_assoc]); repeat (first | (with_reducible exact Grew.same_o) | (with_reducible exact Grew.refl _) | (with_reducible assumption) | (with_reducible refine Grew.alloc ?_ _) | (with_reducible refine Grew.app_r ?_) | ((with_reducible refine Grew.setCell ?_ ?_ _); rotate_left; (focus (dsimp only; first | omega | (simp only [size_ext, World.size_alloc, Array.size_append]; omega)))) | (with_reducible refine Grew.ext ?_ _ _) | (with_reducible refine Grew.drewN ?_ _) | (with_reducible refine Grew.drew ?_))))) ((hv4.grew (by (show Grew _ _; (try simp only [← Array.append_assoc]); repeat (first | (with_reducible exact Grew.same_o) | (with_reducible exact Grew.refl _) | (with_reducible assumption) | (with_reducible refine Grew.alloc ?_ _) | (with_reducible refine Grew.app_r ?_) | ((with_reducible refine Grew.setCell ?_ ?_ _); rotate_left; (focus (dsimp only; first | omega | (simp only [size_ext, World.size_alloc, Array.size_append]; omega)))) | (with_reducible refine Grew.ext ?_ _ _) | (with_reducible refine Grew.drewN ?_ _) | (with_reducible refine Grew.drew ?_))))).mono (by omega) (by omega)) (by omega) (by omega)).mono ?_); rintro e w1 ⟨v6, rfl, hv6, hk6, o4, n4, rfl⟩; (try simp only [ext_drew, drew_ext, drewN_ext, ext_ext, Array.append_assoc] at hv6); (obtain ⟨s61, s62, s63, s64, s65, rfl⟩ := hv6.shape))))
                  refine name_any (fun Y hY => ?_)
                  rw [B17.set3_ext rfl] at hY
                  have gE : Grew wr (ext wr (o1 ++ (o2 ++ o4)) n4) := ⟨_, _, rfl⟩
                  have q6 : dNot (.agg #[.bool s61, .slice s62 s63 s64, .int .i64 s65]) [p17, p15] := dNot.of_new (b := wr.heap.size) (fun kk h1 _ => by have := hk6 kk h1; simp only [size_ext] at this; omega) (fun kk hk => by simp at hk; omega)
                  have gY : Grew W0 Y := by rw [← hY]; exact (Grew.trans gw gE).upd z17 _
                  have Y17 : Box Y p17 #[.bool s61, .slice s62 s63 s64, .int .i64 s65] := by rw [← hY]; exact (B17.grew gE).upd_self _
                  have hDY : DV Y (.agg #[.bool s61, .slice s62 s63 s64, .int .i64 s65]) (sumQ (fun j => ((aW ls k i j : Int) : Rat)) (j + 1)) (-70) (70 + (j + 1 : Nat)) := by
                    rw [← hY]
                    rw [HA.out] at hv6
                    exact (hv6.upd_not q6 (by simp) _).mono (by omega) (by omega)
                  clear hY hv4 hv6 hk4 hk6 gE HA tt lt6 hb3
                  go_wp2
                  go_roundw
                  case rel => exact ⟨j + 1, s61, s62, s63, s64, s65, hjl, by go_num, gY, Y17, hDY, q6⟩
                  case measure => simp [intOf]; omega
                · have e : k = j := by omega
                  subst e
                  have C15 := B15.grew gw
                  have hDm' := hDm.grew gw
                  have t15 := C15.cell
                  have f15 := C15.frozen
                  have l15' := C15.lt
                  go_upto_region 34 with fail
                  refine name_any (fun V3 hV3 => ?_)
                  have gV3 : Grew wr V3 := by rw [← hV3]; (show Grew _ _; (try simp only [← Array.append_assoc]); repeat (first | (with_reducible exact Grew.same_o) | (with_reducible exact Grew.refl _) | (with_reducible assumption) | (with_reducible refine Grew.alloc ?_ _) | (with_reducible refine Grew.app_r ?_) | ((with_reducible refine Grew.setCell ?_ ?_ _); rotate_left; (focus (dsimp only; first | omega | (simp only [size_ext, World.size_alloc, Array.size_append]; omega)))) | (with_reducible refine Grew.ext ?_ _ _) | (with_reducible refine Grew.drewN ?_ _) | (with_reducible refine Grew.drew ?_)))
                  have D15 := C15.grew gV3
                  have D17 := B17.grew gV3
                  have hDs3 := hDs.grew gV3
                  have hDm3 := hDm'.grew gV3
                  have t15 := D15.cell
                  have f15 := D15.frozen
                  have l15' := D15.lt
                  have t17 := D17.cell
                  have l17 := D17.lt
                  have zV3 := gV3.below.size
                  clear hV3 C15 B17 hDs hDm'
                  refine wp_region_R (Grew V3) [4] [(0,0), (0,1), (1,2), (1,3), (2,4)] (by kernel_rfl) (by kernel_rfl) (fun _ _ _ _ h _ => h) (by first | exact ⟨_, _, ext_drew⟩ | exact ⟨_, _, drew_ext0⟩ | (show Grew _ _; repeat (first | (with_reducible exact Grew.refl _) | (with_reducible assumption) | (with_reducible exact Grew.same_o) | (with_reducible exact Grew.app_o) | (with_reducible refine Grew.ext ?_ _ _) | (with_reducible refine Grew.alloc ?_ _) | ((with_reducible refine Grew.setCell ?_ ?_ _); rotate_left; (focus (dsimp only; first | omega | (simp only [size_ext, World.size_alloc, Array.size_append]; omega)))) | (with_reducible refine Grew.drewN ?_ _) | (with_reducible refine Grew.drew ?_)))) ?_
                  go_upto_region 28 with (first | ((with_reducible refine wpR_id ?_); first | (refine wpR_take (v := ?_) rfl rfl ?_ ?_; rotate_left; (focus (rintro w' ⟨o', n', rfl⟩; go_simp; try with_reducible rfl)); simp only [Act.put, List.setIfInBounds_toArray, List.set_cons_zero, List.set_cons_succ]) | (refine wpR_pure (v := ?_) rfl rfl ?_ ?_; rotate_left; (focus (intro w'; go_simp; try with_reducible rfl)); simp only [Act.put, List.setIfInBounds_toArray, List.set_cons_zero, List.set_cons_succ]) | (refine wpR_takeG (v := ?_) rfl rfl rfl rfl rfl ?_ ?_; rotate_left; (focus (rintro w' ⟨o', n', rfl⟩; go_simp; try with_reducible rfl)); simp only [Act.put, List.setIfInBounds_toArray, List.set_cons_zero, List.set_cons_succ]) | (refine wpR_skip rfl rfl rfl rfl rfl rfl ?_; simp only [Act.put, List.setIfInBounds_toArray, List.set_cons_zero, List.set_cons_succ]) | (refine wpR_skipU rfl rfl rfl rfl rfl ?_; simp only [Act.put, List.setIfInBounds_toArray, List.set_cons_zero, List.set_cons_succ]) | (refine wpR_do rfl rfl (fun K hK => ?_)) | (refine wpR_doG rfl rfl rfl rfl rfl (fun K hK => ?_)) | (refine wpR_last rfl rfl (fun K hK => ?_)) | (refine wpR_nil ?_)) | ((with_reducible refine wpR_go ?_ ?_); (focus (show Grew _ _; repeat (first | (with_reducible exact Grew.refl _) | (with_reducible assumption) | (with_reducible exact Grew.same_o) | (with_reducible exact Grew.app_o) | (with_reducible refine Grew.ext ?_ _ _) | (with_reducible refine Grew.alloc ?_ _) | ((with_reducible refine Grew.setCell ?_ ?_ _); rotate_left; (focus (dsimp only; first | omega | (simp only [size_ext, World.size_alloc, Array.size_append]; omega)))) | (with_reducible refine Grew.drewN ?_ _) | (with_reducible refine Grew.drew ?_))))) | ((with_reducible refine upon_id ?_); refine upon_fop rfl (by assumption) (by assumption) ?_; intro rr nn hr) | (go_at_call 30; ((with_reducible refine (dabs_any _ _ _ _ _ (hDs3.grew (by (show Grew _ _; (try simp only [← Array.append_assoc]); repeat (first | (with_reducible exact Grew.same_o) | (with_reducible exact Grew.refl _) | (with_reducible assumption) | (with_reducible refine Grew.alloc ?_ _) | (with_reducible refine Grew.app_r ?_) | ((with_reducible refine Grew.setCell ?_ ?_ _); rotate_left; (focus (dsimp only; first | omega | (simp only [size_ext, World.size_alloc, Array.size_append]; omega)))) | (with_reducible refine Grew.ext ?_ _ _) | (with_reducible refine Grew.drewN ?_ _) | (with_reducible refine Grew.drew ?_)))))).mono ?_); rintro e w1 ⟨v5, rfl, hv5, hk5, o3, n3, rfl⟩; (try simp only [ext_drew, drew_ext, drewN_ext, ext_ext, Array.append_assoc] at hv5); (obtain ⟨s51, s52, s53, s54, s55, rfl⟩ := hv5.shape))) | (go_at_call 31; ((with_reducible refine (dadd_any _ _ _ _ (-70) (90 + i) _ (hDm3.grew (by (show Grew _ _; (try simp only [← Array.append_assoc]); repeat (first | (with_reducible exact Grew.same_o) | (with_reducible exact Grew.refl _) | (with_reducible assumption) | (with_reducible refine Grew.alloc ?_ _) | (with_reducible refine Grew.app_r ?_) | ((with_reducible refine Grew.setCell ?_ ?_ _); rotate_left; (focus (dsimp only; first | omega | (simp only [size_ext, World.size_alloc, Array.size_append]; omega)))) | (with_reducible refine Grew.ext ?_ _ _) | (with_reducible refine Grew.drewN ?_ _) | (with_reducible refine Grew.drew ?_))))) ((hv5.grew (by (show Grew _ _; (try simp only [← Array.append_assoc]); repeat (first | (with_reducible exact Grew.same_o) | (with_reducible exact Grew.refl _) | (with_reducible assumption) | (with_reducible refine Grew.alloc ?_ _) | (with_reducible refine Grew.app_r ?_) | ((with_reducible refine Grew.setCell ?_ ?_ _); rotate_left; (focus (dsimp only; first | omega | (simp only [size_ext, World.size_alloc, Array.size_append]; omega)))) | (with_reducible refine Grew.ext ?_ _ _) | (with_reducible refine Grew.drewN ?_ _) | (with_reducible refine Grew.drew ?_))))).mono (by omega) (by omega)) (by omega) (by omega)).mono ?_); rintro e w1 ⟨v6, rfl, hv6, hk6, o4, n4, rfl⟩; (try simp only [ext_drew, drew_ext, drewN_ext, ext_ext, Array.append_assoc] at hv6); (obtain ⟨s61, s62, s63, s64, s65, rfl⟩ := hv6.shape))))
                  refine name_any (fun Y hY => ?_)
                  rw [D15.set3_ext rfl] at hY
                  have gE : Grew V3 (ext V3 (o3 ++ o4) n4) := ⟨_, _, rfl⟩
                  have q6 : dNot (.agg #[.bool s61, .slice s62 s63 s64, .int .i64 s65]) [p15] := dNot.of_new (b := V3.heap.size) (fun kk h1 _ => by have := hk6 kk h1; simp only [size_ext] at this; omega) (fun kk hk => by simp at hk; omega)
                  have gY : Grew M0 Y := by rw [← hY]; exact (Grew.trans gm (Grew.trans gw (Grew.trans gV3 gE))).upd z15 _
                  have Y15 : Box Y p15 #[.bool s61, .slice s62 s63 s64, .int .i64 s65] := by rw [← hY]; exact (D15.grew gE).upd_self _
                  have hDY : DV Y (.agg #[.bool s61, .slice s62 s63 s64, .int .i64 s65]) (sumQ (fun i => (sumQ (fun j => ((aW ls k i j : Int) : Rat)) k).abs) (i + 1)) (-70) (90 + (i + 1 : Nat)) := by
                    rw [← hY]
                    exact (hv6.upd_not q6 (by simp) _).mono (by omega) (by omega)
                  clear hY hv5 hv6 hk5 hk6 gE hDs3 hDm3
                  go_wp2
                  go_roundw
                  case rel => exact ⟨i + 1, s61, s62, s63, s64, s65, hlt, by go_num, gY, Y15, hDY, q6⟩
                  case measure => simp [intOf]; omega
            · have e : k = i := by omega
              subst e
              have C11 := B11.grew gm
              have hDn' := hDn.grew gm
              have eU := HU.out
              have eL := HLE.out
              have eE := HFE.out.2.2
              rw [← eE] at eU eL
              unfold meanQ at eL
              obtain ⟨NN, hNN⟩ : ∃ q, q = normQ (aW ls k) k k := ⟨_, rfl⟩
              obtain ⟨MM, hMM⟩ : ∃ q, q = sumQ (fun i => (sumQ (fun j => ((aW ls k i j : Int) : Rat)) k).abs) k := ⟨_, rfl⟩
              rw [← hNN] at eU eL hDn'
              rw [← hMM] at eL hDm
              have hc1 : decide (sgE (val E - (NN + NN * p2 (-40))) ≤ 0) = true := by
                unfold sgE
                by_cases h0 : val E - (NN + NN * p2 (-40)) = 0
                · rw [if_pos h0]; rfl
                · rw [if_neg h0, if_pos (by grind)]; rfl
              have hc2 : decide (0 ≤ sgE ((val E + NN * p2 (-40)) * (k : Rat) - MM)) = true := by
                unfold sgE
                by_cases h0 : (val E + NN * p2 (-40)) * (k : Rat) - MM = 0
                · rw [if_pos h0]; rfl
                · rw [if_neg h0, if_neg (by grind)]; rfl
              have HC1 := hid hc1
              have HC2 := hid hc2
              have hDm4 := hDm.mono (lo' := -100) (hi' := 110) (by omega) (by omega)
              have gx4 : Grew U wr := Grew.trans gx gm
              clear hc1 hc2 eU eL eE hNN hMM HU HLE HFE hDn hDm B11 qm qn hAt t6
              go_upto_region 36 with (first | (go_at_call 27; ((with_reducible refine (of_any r E _ hr).mono ?_); rintro e w1 ⟨v9, rfl, hv9, hk9, o1, n1, rfl⟩; (try simp only [ext_drew, drew_ext, drewN_ext, ext_ext, Array.append_assoc] at hv9); (obtain ⟨s91, s92, s93, s94, s95, rfl⟩ := hv9.shape))))
              refine name_any (fun Y1 hY1 => ?_)
              obtain ⟨p19, hp19⟩ : ∃ p, p = wr.heap.size + o1.size := ⟨_, rfl⟩
              have gY1 : Grew wr Y1 := by rw [← hY1]; (show Grew _ _; (try simp only [← Array.append_assoc]); repeat (first | (with_reducible exact Grew.same_o) | (with_reducible exact Grew.refl _) | (with_reducible assumption) | (with_reducible refine Grew.alloc ?_ _) | (with_reducible refine Grew.app_r ?_) | ((with_reducible refine Grew.setCell ?_ ?_ _); rotate_left; (focus (dsimp only; first | omega | (simp only [size_ext, World.size_alloc, Array.size_append]; omega)))) | (with_reducible refine Grew.ext ?_ _ _) | (with_reducible refine Grew.drewN ?_ _) | (with_reducible refine Grew.drew ?_)))
              have X19 : Box Y1 p19 #[.bool s91, .slice s92 s93 s94, .int .i64 s95] := by rw [← hY1]; exact Box.new' (by rw [hp19]; simp only [size_ext])
              have hD9 : DV Y1 (.agg #[.bool s91, .slice s92 s93 s94, .int .i64 s95]) (val E) (-70) 70 := by rw [← hY1]; exact hv9.grew (by (show Grew _ _; (try simp only [← Array.append_assoc]); repeat (first | (with_reducible exact Grew.same_o) | (with_reducible exact Grew.refl _) | (with_reducible assumption) | (with_reducible refine Grew.alloc ?_ _) | (with_reducible refine Grew.app_r ?_) | ((with_reducible refine Grew.setCell ?_ ?_ _); rotate_left; (focus (dsimp only; first | omega | (simp only [size_ext, World.size_alloc, Array.size_append]; omega)))) | (with_reducible refine Grew.ext ?_ _ _) | (with_reducible refine Grew.drewN ?_ _) | (with_reducible refine Grew.drew ?_))))
              have E11 := C11.grew gY1
              have E15 := B15.grew gY1
              have hDn1 := hDn'.grew gY1
              have hDm1 := hDm4.grew gY1
              have t11 := E11.cell
              have l11 := E11.lt
              simp only [← hp19]
              clear hY1 hp19 hv9 hk9 C11 B15 hDn' hDm4
              go_upto_region 37 with (first | (go_at_call 32; ((with_reducible refine (dshift_any _ _ (-70) 90 (-40) _ (hDn1.grew (by (show Grew _ _; (try simp only [← Array.append_assoc]); repeat (first | (with_reducible exact Grew.same_o) | (with_reducible exact Grew.refl _) | (with_reducible assumption) | (with_reducible refine Grew.alloc ?_ _) | (with_reducible refine Grew.app_r ?_) | ((with_reducible refine Grew.setCell ?_ ?_ _); rotate_left; (focus (dsimp only; first | omega | (simp only [size_ext, World.size_alloc, Array.size_append]; omega)))) | (with_reducible refine Grew.ext ?_ _ _) | (with_reducible refine Grew.drewN ?_ _) | (with_reducible refine Grew.drew ?_))))) (by decide) (by decide) (by decide)).mono ?_); rintro e w1 ⟨v8, rfl, hv8, hk8, o2, n2, rfl⟩; (try simp only [ext_drew, drew_ext, drewN_ext, ext_ext, Array.append_assoc] at hv8); (obtain ⟨s81, s82, s83, s84, s85, rfl⟩ := hv8.shape))))
              refine name_any (fun Y2 hY2 => ?_)
              obtain ⟨p20, hp20⟩ : ∃ p, p = Y1.heap.size + o2.size := ⟨_, rfl⟩
              have gY2 : Grew Y1 Y2 := by rw [← hY2]; (show Grew _ _; (try simp only [← Array.append_assoc]); repeat (first | (with_reducible exact Grew.same_o) | (with_reducible exact Grew.refl _) | (with_reducible assumption) | (with_reducible refine Grew.alloc ?_ _) | (with_reducible refine Grew.app_r ?_) | ((with_reducible refine Grew.setCell ?_ ?_ _); rotate_left; (focus (dsimp only; first | omega | (simp only [size_ext, World.size_alloc, Array.size_append]; omega)))) | (with_reducible refine Grew.ext ?_ _ _) | (with_reducible refine Grew.drewN ?_ _) | (with_reducible refine Grew.drew ?_)))
              have X20 : Box Y2 p20 #[.bool s81, .slice s82 s83 s84, .int .i64 s85] := by rw [← hY2]; exact Box.new' (by rw [hp20]; simp only [size_ext])
              have hD8 : DV Y2 (.agg #[.bool s81, .slice s82 s83 s84, .int .i64 s85]) (NN * p2 (-40)) (-100) 110 := by rw [← hY2]; exact (hv8.grew (by (show Grew _ _; (try simp only [← Array.append_assoc]); repeat (first | (with_reducible exact Grew.same_o) | (with_reducible exact Grew.refl _) | (with_reducible assumption) | (with_reducible refine Grew.alloc ?_ _) | (with_reducible refine Grew.app_r ?_) | ((with_reducible refine Grew.setCell ?_ ?_ _); rotate_left; (focus (dsimp only; first | omega | (simp only [size_ext, World.size_alloc, Array.size_append]; omega)))) | (with_reducible refine Grew.ext ?_ _ _) | (with_reducible refine Grew.drewN ?_ _) | (with_reducible refine Grew.drew ?_))))).mono (by decide) (by decide)
              have F19 := X19.grew gY2
              have F11 := E11.grew gY2
              have F15 := E15.grew gY2
              have hDe := (hD9.grew gY2).mono (lo' := -100) (hi' := 110) (by decide) (by decide)
              have hDn2 := (hDn1.grew gY2).mono (lo' := -100) (hi' := 110) (by decide) (by decide)
              have hDm2 := hDm1.grew gY2
              have t19 := F19.cell
              have t11 := F11.cell
              have t15 := F15.cell
              have t20 := X20.cell
              have l19 := F19.lt
              have l11 := F11.lt
              have l15 := F15.lt
              have l20 := X20.lt
              have hik := fun w' => dint_any k w' (by omega)
              have gAll : Grew w Y2 := Grew.trans gwU (Grew.trans gx4 (Grew.trans gY1 gY2))
              simp only [← hp20]
              clear hY2 hp20 hv8 hk8 X19 E11 E15 hD9 hDn1 hDm1
              have c1 := HC1.out
              have c2 := HC2.out
              refine wp_region_R (Grew Y2) [] [(0,0), (0,1), (0,2), (1,3), (1,4), (0,5), (0,6), (0,7), (0,8), (0,10), (0,13), (1,9), (1,11), (1,12), (1,14), (0,15), (0,16), (0,17), (1,18), (0,19), (0,20)] (by kernel_rfl) (by kernel_rfl) (fun _ _ _ _ h _ => h) (by first | exact ⟨_, _, ext_drew⟩ | exact ⟨_, _, drew_ext0⟩ | (show Grew _ _; repeat (first | (with_reducible exact Grew.refl _) | (with_reducible assumption) | (with_reducible exact Grew.same_o) | (with_reducible exact Grew.app_o) | (with_reducible refine Grew.ext ?_ _ _) | (with_reducible refine Grew.alloc ?_ _) | ((with_reducible refine Grew.setCell ?_ ?_ _); rotate_left; (focus (dsimp only; first | omega | (simp only [size_ext, World.size_alloc, Array.size_append]; omega)))) | (with_reducible refine Grew.drewN ?_ _) | (with_reducible refine Grew.drew ?_)))) ?_
              go_wp2_with (first | ((with_reducible refine wpR_id ?_); first | (refine wpR_take (v := ?_) rfl rfl ?_ ?_; rotate_left; (focus (rintro w' ⟨o', n', rfl⟩; go_simp; try with_reducible rfl)); simp only [Act.put, List.setIfInBounds_toArray, List.set_cons_zero, List.set_cons_succ]) | (refine wpR_pure (v := ?_) rfl rfl ?_ ?_; rotate_left; (focus (intro w'; go_simp; try with_reducible rfl)); simp only [Act.put, List.setIfInBounds_toArray, List.set_cons_zero, List.set_cons_succ]) | (refine wpR_takeG (v := ?_) rfl rfl rfl rfl rfl ?_ ?_; rotate_left; (focus (rintro w' ⟨o', n', rfl⟩; go_simp; try with_reducible rfl)); simp only [Act.put, List.setIfInBounds_toArray, List.set_cons_zero, List.set_cons_succ]) | (refine wpR_skip rfl rfl rfl rfl rfl rfl ?_; simp only [Act.put, List.setIfInBounds_toArray, List.set_cons_zero, List.set_cons_succ]) | (refine wpR_skipU rfl rfl rfl rfl rfl ?_; simp only [Act.put, List.setIfInBounds_toArray, List.set_cons_zero, List.set_cons_succ]) | (refine wpR_do rfl rfl (fun K hK => ?_)) | (refine wpR_doG rfl rfl rfl rfl rfl (fun K hK => ?_)) | (refine wpR_last rfl rfl (fun K hK => ?_)) | (refine wpR_nil ?_)) | ((with_reducible refine wpR_go ?_ ?_); (focus (show Grew _ _; repeat (first | (with_reducible exact Grew.refl _) | (with_reducible assumption) | (with_reducible exact Grew.same_o) | (with_reducible exact Grew.app_o) | (with_reducible refine Grew.ext ?_ _ _) | (with_reducible refine Grew.alloc ?_ _) | ((with_reducible refine Grew.setCell ?_ ?_ _); rotate_left; (focus (dsimp only; first | omega | (simp only [size_ext, World.size_alloc, Array.size_append]; omega)))) | (with_reducible refine Grew.drewN ?_ _) | (with_reducible refine Grew.drew ?_))))) | ((with_reducible refine upon_id ?_); refine upon_fop rfl (by assumption) (by assumption) ?_; intro rr nn hr) | (go_at_call 31; ((with_reducible refine (dadd_any _ _ NN (NN * p2 (-40)) (-100) 110 _ (hDn2.grew (by (show Grew _ _; (try simp only [← Array.append_assoc]); repeat (first | (with_reducible exact Grew.same_o) | (with_reducible exact Grew.refl _) | (with_reducible assumption) | (with_reducible refine Grew.alloc ?_ _) | (with_reducible refine Grew.app_r ?_) | ((with_reducible refine Grew.setCell ?_ ?_ _); rotate_left; (focus (dsimp only; first | omega | (simp only [size_ext, World.size_alloc, Array.size_append]; omega)))) | (with_reducible refine Grew.ext ?_ _ _) | (with_reducible refine Grew.drewN ?_ _) | (with_reducible refine Grew.drew ?_))))) (hD8.grew (by (show Grew _ _; (try simp only [← Array.append_assoc]); repeat (first | (with_reducible exact Grew.same_o) | (with_reducible exact Grew.refl _) | (with_reducible assumption) | (with_reducible refine Grew.alloc ?_ _) | (with_reducible refine Grew.app_r ?_) | ((with_reducible refine Grew.setCell ?_ ?_ _); rotate_left; (focus (dsimp only; first | omega | (simp only [size_ext, World.size_alloc, Array.size_append]; omega)))) | (with_reducible refine Grew.ext ?_ _ _) | (with_reducible refine Grew.drewN ?_ _) | (with_reducible refine Grew.drew ?_))))) (by decide) (by decide)).mono ?_); rintro e w1 ⟨v1, rfl, hv1, hk1, o3, n3, rfl⟩; (try simp only [ext_drew, drew_ext, drewN_ext, ext_ext, Array.append_assoc] at hv1); (obtain ⟨s11, s12, s13, s14, s15, rfl⟩ := hv1.shape))) | (go_at_call 34; ((with_reducible refine (dcmp_any _ _ (val E) (NN + NN * p2 (-40)) (-100) 111 _ ((hDe.grew (by (show Grew _ _; (try simp only [← Array.append_assoc]); repeat (first | (with_reducible exact Grew.same_o) | (with_reducible exact Grew.refl _) | (with_reducible assumption) | (with_reducible refine Grew.alloc ?_ _) | (with_reducible refine Grew.app_r ?_) | ((with_reducible refine Grew.setCell ?_ ?_ _); rotate_left; (focus (dsimp only; first | omega | (simp only [size_ext, World.size_alloc, Array.size_append]; omega)))) | (with_reducible refine Grew.ext ?_ _ _) | (with_reducible refine Grew.drewN ?_ _) | (with_reducible refine Grew.drew ?_))))).mono (by decide) (by decide)) (hv1.grew (by (show Grew _ _; (try simp only [← Array.append_assoc]); repeat (first | (with_reducible exact Grew.same_o) | (with_reducible exact Grew.refl _) | (with_reducible assumption) | (with_reducible refine Grew.alloc ?_ _) | (with_reducible refine Grew.app_r ?_) | ((with_reducible refine Grew.setCell ?_ ?_ _); rotate_left; (focus (dsimp only; first | omega | (simp only [size_ext, World.size_alloc, Array.size_append]; omega)))) | (with_reducible refine Grew.ext ?_ _ _) | (with_reducible refine Grew.drewN ?_ _) | (with_reducible refine Grew.drew ?_))))) (by decide) (by decide)).mono ?_); rintro e w1 ⟨rfl, o4, n4, rfl⟩)) | (go_at_call 31; ((with_reducible refine (dadd_any _ _ (val E) (NN * p2 (-40)) (-100) 110 _ (hDe.grew (by (show Grew _ _; (try simp only [← Array.append_assoc]); repeat (first | (with_reducible exact Grew.same_o) | (with_reducible exact Grew.refl _) | (with_reducible assumption) | (with_reducible refine Grew.alloc ?_ _) | (with_reducible refine Grew.app_r ?_) | ((with_reducible refine Grew.setCell ?_ ?_ _); rotate_left; (focus (dsimp only; first | omega | (simp only [size_ext, World.size_alloc, Array.size_append]; omega)))) | (with_reducible refine Grew.ext ?_ _ _) | (with_reducible refine Grew.drewN ?_ _) | (with_reducible refine Grew.drew ?_))))) (hD8.grew (by (show Grew _ _; (try simp only [← Array.append_assoc]); repeat (first | (with_reducible exact Grew.same_o) | (with_reducible exact Grew.refl _) | (with_reducible assumption) | (with_reducible refine Grew.alloc ?_ _) | (with_reducible refine Grew.app_r ?_) | ((with_reducible refine Grew.setCell ?_ ?_ _); rotate_left; (focus (dsimp only; first | omega | (simp only [size_ext, World.size_alloc, Array.size_append]; omega)))) | (with_reducible refine Grew.ext ?_ _ _) | (with_reducible refine Grew.drewN ?_ _) | (with_reducible refine Grew.drew ?_))))) (by decide) (by decide)).mono ?_); rintro e w1 ⟨v2, rfl, hv2, hk2, o5, n5, rfl⟩; (try simp only [ext_drew, drew_ext, drewN_ext, ext_ext, Array.append_assoc] at hv2); (obtain ⟨s21, s22, s23, s24, s25, rfl⟩ := hv2.shape))) | (go_at_call 33; ((with_reducible refine (hik _).mono ?_); rintro e w1 ⟨v3, rfl, hv3, hk3, o6, n6, rfl⟩; (try simp only [ext_drew, drew_ext, drewN_ext, ext_ext, Array.append_assoc] at hv3); (obtain ⟨s31, s32, s33, s34, s35, rfl⟩ := hv3.shape))) | (go_at_call 28; ((with_reducible refine (dmul_any _ _ _ _ (-100) 111 0 4 _ (hv2.grew (by (show Grew _ _; (try simp only [← Array.append_assoc]); repeat (first | (with_reducible exact Grew.same_o) | (with_reducible exact Grew.refl _) | (with_reducible assumption) | (with_reducible refine Grew.alloc ?_ _) | (with_reducible refine Grew.app_r ?_) | ((with_reducible refine Grew.setCell ?_ ?_ _); rotate_left; (focus (dsimp only; first | omega | (simp only [size_ext, World.size_alloc, Array.size_append]; omega)))) | (with_reducible refine Grew.ext ?_ _ _) | (with_reducible refine Grew.drewN ?_ _) | (with_reducible refine Grew.drew ?_))))) (hv3.grew (by (show Grew _ _; (try simp only [← Array.append_assoc]); repeat (first | (with_reducible exact Grew.same_o) | (with_reducible exact Grew.refl _) | (with_reducible assumption) | (with_reducible refine Grew.alloc ?_ _) | (with_reducible refine Grew.app_r ?_) | ((with_reducible refine Grew.setCell ?_ ?_ _); rotate_left; (focus (dsimp only; first | omega | (simp only [size_ext, World.size_alloc, Array.size_append]; omega)))) | (with_reducible refine Grew.ext ?_ _ _) | (with_reducible refine Grew.drewN ?_ _) | (with_reducible refine Grew.drew ?_))))) (by decide) (by decide) (by decide) (by decide)).mono ?_); rintro e w1 ⟨v7, rfl, hv7, hk7, o7, n7, rfl⟩; (try simp only [ext_drew, drew_ext, drewN_ext, ext_ext, Array.append_assoc] at hv7); (obtain ⟨s71, s72, s73, s74, s75, rfl⟩ := hv7.shape))) | (go_at_call 34; ((with_reducible refine (dcmp_any _ _ ((val E + NN * p2 (-40)) * (k : Rat)) MM (-100) 116 _ ((hv7.grew (by (show Grew _ _; (try simp only [← Array.append_assoc]); repeat (first | (with_reducible exact Grew.same_o) | (with_reducible exact Grew.refl _) | (with_reducible assumption) | (with_reducible refine Grew.alloc ?_ _) | (with_reducible refine Grew.app_r ?_) | ((with_reducible refine Grew.setCell ?_ ?_ _); rotate_left; (focus (dsimp only; first | omega | (simp only [size_ext, World.size_alloc, Array.size_append]; omega)))) | (with_reducible refine Grew.ext ?_ _ _) | (with_reducible refine Grew.drewN ?_ _) | (with_reducible refine Grew.drew ?_))))).mono (by decide) (by decide)) ((hDm2.grew (by (show Grew _ _; (try simp only [← Array.append_assoc]); repeat (first | (with_reducible exact Grew.same_o) | (with_reducible exact Grew.refl _) | (with_reducible assumption) | (with_reducible refine Grew.alloc ?_ _) | (with_reducible refine Grew.app_r ?_) | ((with_reducible refine Grew.setCell ?_ ?_ _); rotate_left; (focus (dsimp only; first | omega | (simp only [size_ext, World.size_alloc, Array.size_append]; omega)))) | (with_reducible refine Grew.ext ?_ _ _) | (with_reducible refine Grew.drewN ?_ _) | (with_reducible refine Grew.drew ?_))))).mono (by decide) (by decide)) (by decide) (by decide)).mono ?_); rintro e w1 ⟨rfl, o8, n8, rfl⟩)) | (go_at_call 114; ((with_reducible refine (awake20 _).mono ?_); rintro e w1 ⟨rfl, o1, n1, rfl⟩)))
              go_ret
              exact ⟨rfl, Grew.trans gAll (by (show Grew _ _; (try simp only [← Array.append_assoc]); repeat (first | (with_reducible exact Grew.same_o) | (with_reducible exact Grew.refl _) | (with_reducible assumption) | (with_reducible refine Grew.alloc ?_ _) | (with_reducible refine Grew.app_r ?_) | ((with_reducible refine Grew.setCell ?_ ?_ _); rotate_left; (focus (dsimp only; first | omega | (simp only [size_ext, World.size_alloc, Array.size_append]; omega)))) | (with_reducible refine Grew.ext ?_ _ _) | (with_reducible refine Grew.drewN ?_ _) | (with_reducible refine Grew.drew ?_))))⟩
end Go.Proofs.Ytcmggfpcbijcjaa
end
section
/-
  The law LacnBelow (layer 20), of all its arguments.
-/
set_option linter.unusedSimpArgs false
set_option linter.unusedVariables false
open Go Go.RowKit Sedge
namespace Go.Proofs.Ytcmggfpcbijcjaa
theorem i16_abs {zs : List Int} (h : ∀ z ∈ zs, IntKind.min .i16 ≤ z ∧ z ≤ IntKind.max .i16) (k : Nat) : (zs.getD k 0).natAbs ≤ 32768 := by
  by_cases hk : k < zs.length
  · have hm : zs.getD k 0 ∈ zs := by rw [List.getD_eq_getElem?_getD, List.getElem?_eq_getElem hk]; exact List.getElem_mem _
    have := h _ hm
    have h2 : -32768 ≤ zs.getD k 0 ∧ zs.getD k 0 ≤ 32767 := by simpa [IntKind.min, IntKind.max, IntKind.signed, IntKind.bits] using this
    omega
  · rw [List.getD_eq_getElem?_getD, List.getElem?_eq_none (by omega)]; decide
set_option maxRecDepth 100000 in
set_option maxHeartbeats 2000000 in
theorem lac_nat (VL : Value) (ls : List Int) (u : Nat) (hu : u < 256) (w : World) (hL : IS .i16 w VL ls) (bL : ∀ k, (ls.getD k 0).natAbs ≤ 32768) :
    Calls Try.prog 23 #[VL, .int .u8 u] w (fun e w' => e = .returned (.bool true) ∧ ∃ o n, w' = ext w o n) := by
  obtain ⟨aL, cL, rfl⟩ := hL.shape
  obtain ⟨k, hk⟩ : ∃ k, k = 1 + u % 12 := ⟨_, rfl⟩
  have ek : (1 + (u : Int) % 12) = (k : Int) := by omega
  have h2 : k ≤ 12 := by omega
  have hkk : k * k ≤ 12 * 12 := Nat.mul_le_mul h2 h2
  have hlL := hL.len
  have rw0 : IntKind.i64.wrap ((k : Int) * k) = (k : Int) * k := IntWalk.i64_in _ (by rw [← Int.natCast_mul]; omega)
  by_cases c1 : ls.length < k * k
  · have d1 : decide ((ls.length : Int) < (k : Int) * k) = true := by rw [← Int.natCast_mul]; simp; omega
    clear hk bL hL
    go_enter Try.func23, Try.ntmps23
    go_wp2_with (first | (go_at_call 114; ((with_reducible refine (awake20 _).mono ?_); rintro e w1 ⟨rfl, o1, n1, rfl⟩)))
    go_ret
    exact ⟨rfl, by (show Grew _ _; (try simp only [← Array.append_assoc]); repeat (first | (with_reducible exact Grew.same_o) | (with_reducible exact Grew.refl _) | (with_reducible assumption) | (with_reducible refine Grew.alloc ?_ _) | (with_reducible refine Grew.app_r ?_) | ((with_reducible refine Grew.setCell ?_ ?_ _); rotate_left; (focus (dsimp only; first | omega | (simp only [size_ext, World.size_alloc, Array.size_append]; omega)))) | (with_reducible refine Grew.ext ?_ _ _) | (with_reducible refine Grew.drewN ?_ _) | (with_reducible refine Grew.drew ?_)))⟩
  · by_cases c2 : 1000 < ls.length
    · have d1 : decide ((ls.length : Int) < (k : Int) * k) = false := by rw [← Int.natCast_mul]; simp; omega
      have d2 : decide ((1000 : Int) < (ls.length : Int)) = true := by simp; omega
      clear hk bL hL
      go_enter Try.func23, Try.ntmps23
      go_wp2_with (first | (go_at_call 114; ((with_reducible refine (awake20 _).mono ?_); rintro e w1 ⟨rfl, o1, n1, rfl⟩)))
      go_ret
      exact ⟨rfl, by (show Grew _ _; (try simp only [← Array.append_assoc]); repeat (first | (with_reducible exact Grew.same_o) | (with_reducible exact Grew.refl _) | (with_reducible assumption) | (with_reducible refine Grew.alloc ?_ _) | (with_reducible refine Grew.app_r ?_) | ((with_reducible refine Grew.setCell ?_ ?_ _); rotate_left; (focus (dsimp only; first | omega | (simp only [size_ext, World.size_alloc, Array.size_append]; omega)))) | (with_reducible refine Grew.ext ?_ _ _) | (with_reducible refine Grew.drewN ?_ _) | (with_reducible refine Grew.drew ?_)))⟩
    · exact lac_main aL cL ls u k hu ek w hL bL (by omega) (by omega)
theorem lacnBelow_any (VL : Value) (ls : List Int) (z : Int) (w : World) (hL : IS .i16 w VL ls) (bL : ∀ z ∈ ls, IntKind.min .i16 ≤ z ∧ z ≤ IntKind.max .i16) (h1 : 0 ≤ z ∧ z ≤ 255) :
    Calls Try.prog 23 #[VL, .int .u8 z] w (fun e w' => e = .returned (.bool true) ∧ ∃ o n, w' = ext w o n) := by
  obtain ⟨u, rfl⟩ : ∃ u : Nat, z = u := ⟨z.toNat, by omega⟩
  exact lac_nat VL ls u (by omega) w hL (i16_abs bL)
end Go.Proofs.Ytcmggfpcbijcjaa
end
section
/-
  The dump's head as a list of signs, laid by their numbers: the kernel reckons on such a list, not on the text.
-/
set_option linter.unusedSimpArgs false
set_option linter.unusedVariables false
namespace Go.Proofs.Ytcmggfpcbijcjaa
theorem may_cut {P : Program} {c : List Char} {rest : List (List Char)} (h : behindMainWord (wordsSigns P.initOrder.toList) = c :: rest) (hs : stripLifts liftWords (c :: rest) = ([], c :: rest))
    (hc : (c == "cut".toList) = true) (hl : P.laysLater = false) (hr : P.bearsReflect = false) (hd : P.doorFits [] = true) : P.mayEnter = true := by
  have hc' : c = "cut".toList := by simpa using hc
  unfold Program.mayEnter
  rw [h]
  simp only [hs, hl, hr, hd, List.head?_cons, List.contains_nil, Bool.false_or, Bool.not_false, Bool.and_true, Bool.or_true]
  rw [hc']
  simp
theorem final_cut {P : Program} {c : List Char} {rest : List (List Char)} (h : behindMainWord (wordsSigns P.initOrder.toList) = c :: rest) (hs : stripLifts liftWords (c :: rest) = ([], c :: rest))
    (hc : (c == "carried".toList) = false) : P.liftsFinal = false := by
  unfold Program.liftsFinal Program.headLifts
  simp only [h, hs, List.head?_cons, List.contains_nil, ite_self, Bool.or_false]
  have : (some c == some "carried".toList) = false := by simpa using hc
  rw [this]
  rfl
theorem make_cut {P : Program} {c : List Char} {rest : List (List Char)} (h : behindMainWord (wordsSigns P.initOrder.toList) = c :: rest)
    (h1 : (c == "gc".toList || c == "spec".toList) = false) (h2 : (c == "cut".toList) = true) : P.make = some .cut := by
  unfold Program.make
  rw [h]
  simp only [h1, h2, Bool.true_or, Bool.false_eq_true, if_false, if_true]
def headCodes : List Nat := [
  104, 97, 114, 110, 101, 115, 115, 32, 51, 102, 52, 100, 97, 51, 56, 49, 53, 101, 98, 97, 49, 97, 55, 99, 97, 51, 97, 53, 57, 98, 51, 57, 53, 55, 97, 97, 53, 56, 102, 57,
  54, 102, 100, 51, 48, 56, 99, 48, 99, 51, 57, 99, 54, 57, 56, 51, 57, 48, 54, 97, 99, 49, 97, 102, 48, 98, 102, 98, 49, 100, 49, 54, 32, 99, 117, 116, 32, 97, 116, 32,
  115, 116, 114, 97, 105, 103, 104, 116, 101, 100, 103, 101, 47, 115, 116, 114, 97, 105, 103, 104, 116, 101, 100, 103, 101, 108, 97, 119, 48, 54, 46, 65, 120, 101, 115, 67, 108, 111, 115, 101,
  32, 115, 116, 114, 97, 105, 103, 104, 116, 101, 100, 103, 101, 47, 115, 116, 114, 97, 105, 103, 104, 116, 101, 100, 103, 101, 108, 97, 119, 48, 53, 46, 83, 117, 109, 115, 76, 105, 115, 116,
  115, 32, 115, 116, 114, 97, 105, 103, 104, 116, 101, 100, 103, 101, 47, 115, 116, 114, 97, 105, 103, 104, 116, 101, 100, 103, 101, 108, 97, 119, 48, 52, 46, 77, 111, 118, 101, 82, 111, 119,
  115, 32, 115, 116, 114, 97, 105, 103, 104, 116, 101, 100, 103, 101, 47, 115, 116, 114, 97, 105, 103, 104, 116, 101, 100, 103, 101, 108, 97, 119, 48, 56, 46, 71, 101, 114, 84, 101, 108, 108,
  115, 32, 115, 116, 114, 97, 105, 103, 104, 116, 101, 100, 103, 101, 47, 115, 116, 114, 97, 105, 103, 104, 116, 101, 100, 103, 101, 108, 97, 119, 48, 52, 46, 77, 111, 118, 101, 86, 101, 99,
  116, 111, 114, 115, 32, 115, 116, 114, 97, 105, 103, 104, 116, 101, 100, 103, 101, 47, 115, 116, 114, 97, 105, 103, 104, 116, 101, 100, 103, 101, 108, 97, 119, 48, 55, 46, 71, 101, 109, 118,
  67, 108, 111, 115, 101, 32, 115, 116, 114, 97, 105, 103, 104, 116, 101, 100, 103, 101, 47, 115, 116, 114, 97, 105, 103, 104, 116, 101, 100, 103, 101, 108, 97, 119, 49, 49, 46, 71, 101, 109,
  109, 84, 101, 108, 108, 115, 32, 115, 116, 114, 97, 105, 103, 104, 116, 101, 100, 103, 101, 47, 115, 116, 114, 97, 105, 103, 104, 116, 101, 100, 103, 101, 108, 97, 119, 48, 57, 46, 84, 114,
  115, 118, 83, 111, 108, 118, 101, 115, 32, 115, 116, 114, 97, 105, 103, 104, 116, 101, 100, 103, 101, 47, 115, 116, 114, 97, 105, 103, 104, 116, 101, 100, 103, 101, 108, 97, 119, 48, 57, 46,
  84, 114, 115, 118, 66, 97, 99, 107, 119, 97, 114, 100, 32, 115, 116, 114, 97, 105, 103, 104, 116, 101, 100, 103, 101, 47, 115, 116, 114, 97, 105, 103, 104, 116, 101, 100, 103, 101, 108, 97,
  119, 48, 55, 46, 71, 101, 109, 118, 84, 117, 114, 110, 115, 32, 115, 116, 114, 97, 105, 103, 104, 116, 101, 100, 103, 101, 47, 115, 116, 114, 97, 105, 103, 104, 116, 101, 100, 103, 101, 108,
  97, 119, 48, 54, 46, 65, 120, 101, 115, 66, 97, 99, 107, 32, 115, 116, 114, 97, 105, 103, 104, 116, 101, 100, 103, 101, 47, 115, 116, 114, 97, 105, 103, 104, 116, 101, 100, 103, 101, 108,
  97, 119, 49, 49, 46, 71, 101, 109, 109, 87, 104, 111, 108, 101, 32, 115, 116, 114, 97, 105, 103, 104, 116, 101, 100, 103, 101, 47, 115, 116, 114, 97, 105, 103, 104, 116, 101, 100, 103, 101,
  108, 97, 119, 50, 50, 46, 82, 101, 115, 105, 100, 66, 111, 117, 110, 100, 115, 32, 115, 116, 114, 97, 105, 103, 104, 116, 101, 100, 103, 101, 47, 115, 116, 114, 97, 105, 103, 104, 116, 101,
  100, 103, 101, 108, 97, 119, 50, 50, 46, 82, 101, 115, 105, 100, 82, 101, 115, 116, 32, 115, 116, 114, 97, 105, 103, 104, 116, 101, 100, 103, 101, 47, 115, 116, 114, 97, 105, 103, 104, 116,
  101, 100, 103, 101, 108, 97, 119, 48, 54, 46, 65, 120, 101, 115, 83, 99, 97, 108, 101, 32, 115, 116, 114, 97, 105, 103, 104, 116, 101, 100, 103, 101, 47, 115, 116, 114, 97, 105, 103, 104,
  116, 101, 100, 103, 101, 108, 97, 119, 49, 53, 46, 69, 113, 117, 105, 108, 70, 97, 99, 116, 111, 114, 115, 32, 115, 116, 114, 97, 105, 103, 104, 116, 101, 100, 103, 101, 47, 115, 116, 114,
  97, 105, 103, 104, 116, 101, 100, 103, 101, 108, 97, 119, 50, 50, 46, 82, 101, 115, 105, 100, 84, 101, 108, 108, 115, 32, 115, 116, 114, 97, 105, 103, 104, 116, 101, 100, 103, 101, 47, 115,
  116, 114, 97, 105, 103, 104, 116, 101, 100, 103, 101, 108, 97, 119, 50, 50, 46, 82, 101, 115, 105, 100, 66, 97, 99, 107, 119, 97, 114, 100, 32, 115, 116, 114, 97, 105, 103, 104, 116, 101,
  100, 103, 101, 47, 115, 116, 114, 97, 105, 103, 104, 116, 101, 100, 103, 101, 108, 97, 119, 49, 53, 46, 69, 113, 117, 105, 108, 76, 105, 107, 101, 32, 115, 116, 114, 97, 105, 103, 104, 116,
  101, 100, 103, 101, 47, 115, 116, 114, 97, 105, 103, 104, 116, 101, 100, 103, 101, 108, 97, 119, 49, 53, 46, 69, 113, 117, 105, 108, 83, 99, 97, 108, 101, 115, 32, 115, 116, 114, 97, 105,
  103, 104, 116, 101, 100, 103, 101, 47, 115, 116, 114, 97, 105, 103, 104, 116, 101, 100, 103, 101, 108, 97, 119, 50, 48, 46, 76, 97, 99, 110, 66, 101, 108, 111, 119]
def headWords : List (List Nat) := [
  [104, 97, 114, 110, 101, 115, 115],
  [51, 102, 52, 100, 97, 51, 56, 49, 53, 101, 98, 97, 49, 97, 55, 99, 97, 51, 97, 53, 57, 98, 51, 57, 53, 55, 97, 97, 53, 56, 102, 57, 54, 102, 100, 51, 48, 56, 99, 48, 99, 51, 57, 99, 54, 57, 56, 51, 57, 48, 54, 97, 99, 49, 97, 102, 48, 98, 102, 98, 49, 100, 49, 54],
  [99, 117, 116],
  [97, 116],
  [115, 116, 114, 97, 105, 103, 104, 116, 101, 100, 103, 101, 47, 115, 116, 114, 97, 105, 103, 104, 116, 101, 100, 103, 101, 108, 97, 119, 48, 54, 46, 65, 120, 101, 115, 67, 108, 111, 115, 101],
  [115, 116, 114, 97, 105, 103, 104, 116, 101, 100, 103, 101, 47, 115, 116, 114, 97, 105, 103, 104, 116, 101, 100, 103, 101, 108, 97, 119, 48, 53, 46, 83, 117, 109, 115, 76, 105, 115, 116, 115],
  [115, 116, 114, 97, 105, 103, 104, 116, 101, 100, 103, 101, 47, 115, 116, 114, 97, 105, 103, 104, 116, 101, 100, 103, 101, 108, 97, 119, 48, 52, 46, 77, 111, 118, 101, 82, 111, 119, 115],
  [115, 116, 114, 97, 105, 103, 104, 116, 101, 100, 103, 101, 47, 115, 116, 114, 97, 105, 103, 104, 116, 101, 100, 103, 101, 108, 97, 119, 48, 56, 46, 71, 101, 114, 84, 101, 108, 108, 115],
  [115, 116, 114, 97, 105, 103, 104, 116, 101, 100, 103, 101, 47, 115, 116, 114, 97, 105, 103, 104, 116, 101, 100, 103, 101, 108, 97, 119, 48, 52, 46, 77, 111, 118, 101, 86, 101, 99, 116, 111, 114, 115],
  [115, 116, 114, 97, 105, 103, 104, 116, 101, 100, 103, 101, 47, 115, 116, 114, 97, 105, 103, 104, 116, 101, 100, 103, 101, 108, 97, 119, 48, 55, 46, 71, 101, 109, 118, 67, 108, 111, 115, 101],
  [115, 116, 114, 97, 105, 103, 104, 116, 101, 100, 103, 101, 47, 115, 116, 114, 97, 105, 103, 104, 116, 101, 100, 103, 101, 108, 97, 119, 49, 49, 46, 71, 101, 109, 109, 84, 101, 108, 108, 115],
  [115, 116, 114, 97, 105, 103, 104, 116, 101, 100, 103, 101, 47, 115, 116, 114, 97, 105, 103, 104, 116, 101, 100, 103, 101, 108, 97, 119, 48, 57, 46, 84, 114, 115, 118, 83, 111, 108, 118, 101, 115],
  [115, 116, 114, 97, 105, 103, 104, 116, 101, 100, 103, 101, 47, 115, 116, 114, 97, 105, 103, 104, 116, 101, 100, 103, 101, 108, 97, 119, 48, 57, 46, 84, 114, 115, 118, 66, 97, 99, 107, 119, 97, 114, 100],
  [115, 116, 114, 97, 105, 103, 104, 116, 101, 100, 103, 101, 47, 115, 116, 114, 97, 105, 103, 104, 116, 101, 100, 103, 101, 108, 97, 119, 48, 55, 46, 71, 101, 109, 118, 84, 117, 114, 110, 115],
  [115, 116, 114, 97, 105, 103, 104, 116, 101, 100, 103, 101, 47, 115, 116, 114, 97, 105, 103, 104, 116, 101, 100, 103, 101, 108, 97, 119, 48, 54, 46, 65, 120, 101, 115, 66, 97, 99, 107],
  [115, 116, 114, 97, 105, 103, 104, 116, 101, 100, 103, 101, 47, 115, 116, 114, 97, 105, 103, 104, 116, 101, 100, 103, 101, 108, 97, 119, 49, 49, 46, 71, 101, 109, 109, 87, 104, 111, 108, 101],
  [115, 116, 114, 97, 105, 103, 104, 116, 101, 100, 103, 101, 47, 115, 116, 114, 97, 105, 103, 104, 116, 101, 100, 103, 101, 108, 97, 119, 50, 50, 46, 82, 101, 115, 105, 100, 66, 111, 117, 110, 100, 115],
  [115, 116, 114, 97, 105, 103, 104, 116, 101, 100, 103, 101, 47, 115, 116, 114, 97, 105, 103, 104, 116, 101, 100, 103, 101, 108, 97, 119, 50, 50, 46, 82, 101, 115, 105, 100, 82, 101, 115, 116],
  [115, 116, 114, 97, 105, 103, 104, 116, 101, 100, 103, 101, 47, 115, 116, 114, 97, 105, 103, 104, 116, 101, 100, 103, 101, 108, 97, 119, 48, 54, 46, 65, 120, 101, 115, 83, 99, 97, 108, 101],
  [115, 116, 114, 97, 105, 103, 104, 116, 101, 100, 103, 101, 47, 115, 116, 114, 97, 105, 103, 104, 116, 101, 100, 103, 101, 108, 97, 119, 49, 53, 46, 69, 113, 117, 105, 108, 70, 97, 99, 116, 111, 114, 115],
  [115, 116, 114, 97, 105, 103, 104, 116, 101, 100, 103, 101, 47, 115, 116, 114, 97, 105, 103, 104, 116, 101, 100, 103, 101, 108, 97, 119, 50, 50, 46, 82, 101, 115, 105, 100, 84, 101, 108, 108, 115],
  [115, 116, 114, 97, 105, 103, 104, 116, 101, 100, 103, 101, 47, 115, 116, 114, 97, 105, 103, 104, 116, 101, 100, 103, 101, 108, 97, 119, 50, 50, 46, 82, 101, 115, 105, 100, 66, 97, 99, 107, 119, 97, 114, 100],
  [115, 116, 114, 97, 105, 103, 104, 116, 101, 100, 103, 101, 47, 115, 116, 114, 97, 105, 103, 104, 116, 101, 100, 103, 101, 108, 97, 119, 49, 53, 46, 69, 113, 117, 105, 108, 76, 105, 107, 101],
  [115, 116, 114, 97, 105, 103, 104, 116, 101, 100, 103, 101, 47, 115, 116, 114, 97, 105, 103, 104, 116, 101, 100, 103, 101, 108, 97, 119, 49, 53, 46, 69, 113, 117, 105, 108, 83, 99, 97, 108, 101, 115],
  [115, 116, 114, 97, 105, 103, 104, 116, 101, 100, 103, 101, 47, 115, 116, 114, 97, 105, 103, 104, 116, 101, 100, 103, 101, 108, 97, 119, 50, 48, 46, 76, 97, 99, 110, 66, 101, 108, 111, 119]]
def W : List (List Char) := headWords.map (·.map Char.ofNat)
theorem head_eq : Try.prog.initOrder = String.ofList (headCodes.map Char.ofNat) := by kernel_rfl
theorem head_list : Try.prog.initOrder.toList = headCodes.map Char.ofNat := by rw [head_eq, String.toList_ofList]
theorem head_words : wordsSigns (headCodes.map Char.ofNat) = W := by kernel_rfl
def cutWord : List Char := W.getD 2 []
def restWords : List (List Char) := W.drop 3
theorem head_split : behindMainWord W = cutWord :: restWords := by kernel_rfl
theorem head_behind : behindMainWord (wordsSigns Try.prog.initOrder.toList) = cutWord :: restWords := by rw [head_list, head_words]; exact head_split
theorem head_strip : stripLifts liftWords (cutWord :: restWords) = ([], cutWord :: restWords) := by kernel_rfl
theorem head_final : Try.prog.liftsFinal = false := final_cut head_behind head_strip (by kernel_rfl)
theorem head_make : Try.prog.make = some .cut := make_cut head_behind (by kernel_rfl) (by kernel_rfl)
theorem head_may : Try.prog.mayEnter = true := may_cut head_behind head_strip (by kernel_rfl) (by kernel_rfl) (by kernel_rfl) (by kernel_rfl)
end Go.Proofs.Ytcmggfpcbijcjaa
end
