/-
  Texts laid one behind the other (a claim has at most 60 files): Dy9, Dy10, GrewA, Boxd, ParD.
-/
import Derived.Test.YtcmggfpcbijcjaaQTrsvBackward1
import Derived.Test.YtcmggfpcbijcjaaQTrsvBackward2
import Derived.Test.YtcmggfpcbijcjaaQTrsvBackward3
import Derived.Test.YtcmggfpcbijcjaaQTrsvBackward4
import Derived.Test.YtcmggfpcbijcjaaQTrsvBackward5
import Derived.Test.YtcmggfpcbijcjaaQTrsvBackward6
import Derived.Test.YtcmggfpcbijcjaaQTrsvBackward7
import Derived.Test.YtcmggfpcbijcjaaQTrsvBackward8
import Derived.Test.YtcmggfpcbijcjaaQTrsvBackward9
import Derived.Test.YtcmggfpcbijcjaaQTrsvBackward10
section
/-
  Contracts: the reference's digits (layer 2): Minus, Abs, Sign, Sub, Cmp.
-/
set_option linter.unusedSimpArgs false
set_option linter.unusedVariables false
open Go Go.RowKit Sedge
namespace Go.Proofs.Ytcmggfpcbijcjaa
theorem dat_flip (s : Bool) (m : Nat) (p : Int) : dat (!s) m p = -dat s m p := dat_not s m p
theorem dat_absq (s : Bool) (m : Nat) (p : Int) : dat false m p = (dat s m p).abs := by
  rw [dat_abs]; unfold dat sgn; simp
theorem grew_set4 {w X : World} (g : Grew w X) {a : Addr} (ha : w.heap.size ≤ a.block) (x : Value) : Grew w (X.setCell a x) := g.setCell ha x
set_option maxRecDepth 100000 in
set_option maxHeartbeats 1000000 in
/-- Minus. -/
theorem dminus_any (V : Value) (q : Rat) (lo hi : Int) (w : World) (h : DV w V q lo hi) :
   Calls Try.prog 81 #[V] w (fun e w' => ∃ v, e = .returned v ∧ DV w' v (-q) lo hi ∧ (dBlock v = dBlock V ∧ dLen v = dLen V) ∧ ∃ o n, w' = ext w o n) := by
  obtain ⟨ng, L, E, l, rfl, hN, hD, hq, h0, h1, h2⟩ := h
  obtain ⟨sa, sc, rfl⟩ := hN.shape
  have hq' : -q = dat (!ng) (dv l) (16 * E) := by rw [dat_flip, ← hq]
  obtain ⟨r, hr⟩ : ∃ r, r = -q := ⟨_, rfl⟩
  rw [← hr] at hq' ⊢
  clear hr hq
  obtain ⟨n, hn⟩ : ∃ n, n = l.length := ⟨_, rfl⟩
  rw [← hn] at hN ⊢
  by_cases hl : l = []
  · subst hl
    have hn0 : n = 0 := hn
    subst hn0
    clear hn
    obtain ⟨rfl, rfl⟩ := h1 rfl
    have hH := hid hq'
    clear hq' h0 h1 h2
    go_enter Try.func81, Try.ntmps81
    refine seq_stop ?_
    go_wp2
    refine stop_go (fun W hW => ?_)
    have s1 : w.heap.size < W.heap.size := by rw [hW]; simp only [World.size_alloc]; omega
    have b1 : ∀ i, W.cell? ⟨w.heap.size, i, none⟩ = (#[.bool false, .slice sa 0 sc, .int .i64 0] : Array Value)[i]? := by intro i; rw [hW]; go_simp
    have f1 : ∀ i, W.frozen? ⟨w.heap.size, i, none⟩ = false := by intro i; rw [hW]; go_simp
    have s2 : w.heap.size + 1 < W.heap.size := by rw [hW]; simp only [World.size_alloc]; omega
    have b2 : ∀ i, W.cell? ⟨w.heap.size + 1, i, none⟩ = (#[.bool false, .slice none 0 0, .int .i64 0] : Array Value)[i]? := by intro i; rw [hW]; go_simp
    have f2 : ∀ i, W.frozen? ⟨w.heap.size + 1, i, none⟩ = false := by intro i; rw [hW]; go_simp
    have g0 : Grew w W := by rw [hW]; exact ((Grew.refl _).alloc _).alloc _
    clear hW
    go_wp2
    refine bodyPost_ret (by simp [results, Try.results81, go_sem, *]; rfl) rfl ?_
    have gw : Grew w (((W.setCell ⟨w.heap.size + 1, 0, none⟩ (.bool false)).setCell ⟨w.heap.size + 1, 1, none⟩ (.slice sa 0 sc)).setCell ⟨w.heap.size + 1, 2, none⟩ (.int .i64 0)) := by (show Grew _ _; repeat (first | (with_reducible exact Grew.refl _) | (with_reducible assumption) | (with_reducible exact Grew.same_o) | (with_reducible exact Grew.app_o) | (with_reducible refine Grew.ext ?_ _ _) | (with_reducible refine Grew.alloc ?_ _) | ((with_reducible refine Grew.setCell ?_ ?_ _); rotate_left; (focus (dsimp only; first | omega | (simp only [size_ext, World.size_alloc, Array.size_append]; omega)))) | (with_reducible refine Grew.drewN ?_ _) | (with_reducible refine Grew.drew ?_)))
    refine ⟨_, rfl, ⟨false, _, 0, [], rfl, hN.grew gw, hD, ?_, fun _ => rfl, fun _ => ⟨rfl, rfl⟩, fun h => absurd rfl h⟩, ⟨rfl, rfl⟩, gw⟩
    rw [hH.out]; show dat _ 0 _ = dat _ 0 _; rw [dat_zero, dat_zero]
  · have hln : 0 < n := by rw [hn]; exact List.length_pos_iff.2 hl
    clear hn
    have hH := hid hq'
    clear hq'
    go_enter Try.func81, Try.ntmps81
    refine seq_stop ?_
    go_wp2
    refine stop_go (fun W hW => ?_)
    have s1 : w.heap.size < W.heap.size := by rw [hW]; simp only [World.size_alloc]; omega
    have b1 : ∀ i, W.cell? ⟨w.heap.size, i, none⟩ = (#[.bool ng, .slice sa n sc, .int .i64 E] : Array Value)[i]? := by intro i; rw [hW]; go_simp
    have f1 : ∀ i, W.frozen? ⟨w.heap.size, i, none⟩ = false := by intro i; rw [hW]; go_simp
    have s2 : w.heap.size + 1 < W.heap.size := by rw [hW]; simp only [World.size_alloc]; omega
    have b2 : ∀ i, W.cell? ⟨w.heap.size + 1, i, none⟩ = (#[.bool false, .slice none 0 0, .int .i64 0] : Array Value)[i]? := by intro i; rw [hW]; go_simp
    have f2 : ∀ i, W.frozen? ⟨w.heap.size + 1, i, none⟩ = false := by intro i; rw [hW]; go_simp
    have g0 : Grew w W := by rw [hW]; exact ((Grew.refl _).alloc _).alloc _
    clear hW
    go_wp2
    refine bodyPost_ret (by simp [results, Try.results81, go_sem, *]; rfl) rfl ?_
    have gw : Grew w ((((W.setCell ⟨w.heap.size, 0, none⟩ (.bool (!ng))).setCell ⟨w.heap.size + 1, 0, none⟩ (.bool (!ng))).setCell ⟨w.heap.size + 1, 1, none⟩ (.slice sa n sc)).setCell ⟨w.heap.size + 1, 2, none⟩ (.int .i64 E)) := by (show Grew _ _; repeat (first | (with_reducible exact Grew.refl _) | (with_reducible assumption) | (with_reducible exact Grew.same_o) | (with_reducible exact Grew.app_o) | (with_reducible refine Grew.ext ?_ _ _) | (with_reducible refine Grew.alloc ?_ _) | ((with_reducible refine Grew.setCell ?_ ?_ _); rotate_left; (focus (dsimp only; first | omega | (simp only [size_ext, World.size_alloc, Array.size_append]; omega)))) | (with_reducible refine Grew.drewN ?_ _) | (with_reducible refine Grew.drew ?_)))
    exact ⟨_, rfl, ⟨!ng, _, E, l, rfl, hN.grew gw, hD, hH.out, h0, fun h => absurd h hl, h2⟩, ⟨rfl, rfl⟩, gw⟩
set_option maxRecDepth 100000 in
set_option maxHeartbeats 1000000 in
/-- Abs. -/
theorem dabs_any (V : Value) (q : Rat) (lo hi : Int) (w : World) (h : DV w V q lo hi) :
   Calls Try.prog 30 #[V] w (fun e w' => ∃ v, e = .returned v ∧ DV w' v q.abs lo hi ∧ (dBlock v = dBlock V ∧ dLen v = dLen V) ∧ ∃ o n, w' = ext w o n) := by
  obtain ⟨ng, L, E, l, rfl, hN, hD, hq, h0, h1, h2⟩ := h
  obtain ⟨sa, sc, rfl⟩ := hN.shape
  have hq' : q.abs = dat false (dv l) (16 * E) := by rw [dat_absq ng, ← hq]
  obtain ⟨r, hr⟩ : ∃ r, r = q.abs := ⟨_, rfl⟩
  rw [← hr] at hq' ⊢
  clear hr hq
  obtain ⟨n, hn⟩ : ∃ n, n = l.length := ⟨_, rfl⟩
  rw [← hn] at hN ⊢
  have hH := hid hq'
  clear hq' hn
  go_enter Try.func30, Try.ntmps30
  refine seq_stop ?_
  go_wp2
  refine stop_go (fun W hW => ?_)
  have s1 : w.heap.size < W.heap.size := by rw [hW]; simp only [World.size_alloc]; omega
  have b1 : ∀ i, W.cell? ⟨w.heap.size, i, none⟩ = (#[.bool ng, .slice sa n sc, .int .i64 E] : Array Value)[i]? := by intro i; rw [hW]; go_simp
  have f1 : ∀ i, W.frozen? ⟨w.heap.size, i, none⟩ = false := by intro i; rw [hW]; go_simp
  have s2 : w.heap.size + 1 < W.heap.size := by rw [hW]; simp only [World.size_alloc]; omega
  have b2 : ∀ i, W.cell? ⟨w.heap.size + 1, i, none⟩ = (#[.bool false, .slice none 0 0, .int .i64 0] : Array Value)[i]? := by intro i; rw [hW]; go_simp
  have f2 : ∀ i, W.frozen? ⟨w.heap.size + 1, i, none⟩ = false := by intro i; rw [hW]; go_simp
  have g0 : Grew w W := by rw [hW]; exact ((Grew.refl _).alloc _).alloc _
  clear hW
  go_wp2
  refine bodyPost_ret (by simp [results, Try.results30, go_sem, *]; rfl) rfl ?_
  have gw : Grew w ((((W.setCell ⟨w.heap.size, 0, none⟩ (.bool false)).setCell ⟨w.heap.size + 1, 0, none⟩ (.bool false)).setCell ⟨w.heap.size + 1, 1, none⟩ (.slice sa n sc)).setCell ⟨w.heap.size + 1, 2, none⟩ (.int .i64 E)) := by (show Grew _ _; repeat (first | (with_reducible exact Grew.refl _) | (with_reducible assumption) | (with_reducible exact Grew.same_o) | (with_reducible exact Grew.app_o) | (with_reducible refine Grew.ext ?_ _ _) | (with_reducible refine Grew.alloc ?_ _) | ((with_reducible refine Grew.setCell ?_ ?_ _); rotate_left; (focus (dsimp only; first | omega | (simp only [size_ext, World.size_alloc, Array.size_append]; omega)))) | (with_reducible refine Grew.drewN ?_ _) | (with_reducible refine Grew.drew ?_)))
  exact ⟨_, rfl, ⟨false, _, E, l, rfl, hN.grew gw, hD, hH.out, h0, fun h => ⟨(h1 h).1, rfl⟩, h2⟩, ⟨rfl, rfl⟩, gw⟩
def sgE (q : Rat) : Int := if q = 0 then 0 else if q < 0 then -1 else 1
theorem sgE_dat (ng : Bool) (m : Nat) (p : Int) : sgE (dat ng m p) = if m = 0 then 0 else if ng = true then -1 else 1 := by
  unfold sgE
  by_cases hm : m = 0
  · rw [if_pos hm, hm, dat_zero, if_pos rfl]
  · have h1 : dat ng m p ≠ 0 := fun h => hm (dat_eq_zero h)
    have h2 : (0 : Rat) < (m : Rat) * p2 p := Rat.mul_pos (Rat.natCast_pos.2 (Nat.pos_of_ne_zero hm)) (p2_pos p)
    rw [if_neg hm, if_neg h1]
    cases ng
    · rw [if_neg (by unfold dat sgn; simp; grind), if_neg (by decide)]
    · rw [if_pos (by unfold dat sgn; simp; grind), if_pos rfl]
set_option maxRecDepth 100000 in
set_option maxHeartbeats 1000000 in
/-- Sign. -/
theorem dsign_any (V : Value) (q : Rat) (lo hi : Int) (w : World) (h : DV w V q lo hi) :
   Calls Try.prog 126 #[V] w (fun e w' => e = .returned (.int .i64 (sgE q)) ∧ ∃ o n, w' = ext w o n) := by
  obtain ⟨ng, L, E, l, rfl, hN, hD, hq, h0, h1, h2⟩ := h
  obtain ⟨sa, sc, rfl⟩ := hN.shape
  obtain ⟨r, hr⟩ : ∃ r, r = sgE q := ⟨_, rfl⟩
  have hr2 : r = if dv l = 0 then 0 else if ng = true then -1 else 1 := by rw [hr, hq, sgE_dat]
  rw [← hr]
  clear hr hq hN
  obtain ⟨n, hn⟩ : ∃ n, n = l.length := ⟨_, rfl⟩
  rw [← hn]
  by_cases hl : l = []
  · subst hl
    have hn0 : n = 0 := hn
    subst hn0
    clear hn
    have hR := hid (show r = 0 by rw [hr2]; rfl)
    clear hr2
    go_enter Try.func126, Try.ntmps126
    refine seq_stop ?_
    go_wp2
    refine stop_go (fun W hW => ?_)
    have s1 : w.heap.size < W.heap.size := by rw [hW]; simp only [World.size_alloc]; omega
    have b1 : ∀ i, W.cell? ⟨w.heap.size, i, none⟩ = (#[.bool ng, .slice sa 0 sc, .int .i64 E] : Array Value)[i]? := by intro i; rw [hW]; go_simp
    have g0 : Grew w W := by rw [hW]; exact (Grew.refl _).alloc _
    clear hW
    go_wp2
    go_ret
    exact ⟨ret_int hR.out.symm, by (show Grew _ _; repeat (first | (with_reducible exact Grew.refl _) | (with_reducible assumption) | (with_reducible exact Grew.same_o) | (with_reducible exact Grew.app_o) | (with_reducible refine Grew.ext ?_ _ _) | (with_reducible refine Grew.alloc ?_ _) | ((with_reducible refine Grew.setCell ?_ ?_ _); rotate_left; (focus (dsimp only; first | omega | (simp only [size_ext, World.size_alloc, Array.size_append]; omega)))) | (with_reducible refine Grew.drewN ?_ _) | (with_reducible refine Grew.drew ?_)))⟩
  · have hln : ((n : Int) == 0) = false := by rw [beq_eq_false_iff_ne, hn]; have := List.length_pos_iff.2 hl; omega
    clear hn
    rw [if_neg (fun h => hl (h0 h))] at hr2
    cases ng
    · have hR := hid (show r = 1 from hr2)
      clear hr2
      go_enter Try.func126, Try.ntmps126
      refine seq_stop ?_
      go_wp2
      refine stop_go (fun W hW => ?_)
      have s1 : w.heap.size < W.heap.size := by rw [hW]; simp only [World.size_alloc]; omega
      have b1 : ∀ i, W.cell? ⟨w.heap.size, i, none⟩ = (#[.bool false, .slice sa n sc, .int .i64 E] : Array Value)[i]? := by intro i; rw [hW]; go_simp
      have g0 : Grew w W := by rw [hW]; exact (Grew.refl _).alloc _
      clear hW
      go_wp2
      go_ret
      exact ⟨ret_int hR.out.symm, by (show Grew _ _; repeat (first | (with_reducible exact Grew.refl _) | (with_reducible assumption) | (with_reducible exact Grew.same_o) | (with_reducible exact Grew.app_o) | (with_reducible refine Grew.ext ?_ _ _) | (with_reducible refine Grew.alloc ?_ _) | ((with_reducible refine Grew.setCell ?_ ?_ _); rotate_left; (focus (dsimp only; first | omega | (simp only [size_ext, World.size_alloc, Array.size_append]; omega)))) | (with_reducible refine Grew.drewN ?_ _) | (with_reducible refine Grew.drew ?_)))⟩
    · have hR := hid (show r = -1 from hr2)
      clear hr2
      go_enter Try.func126, Try.ntmps126
      refine seq_stop ?_
      go_wp2
      refine stop_go (fun W hW => ?_)
      have s1 : w.heap.size < W.heap.size := by rw [hW]; simp only [World.size_alloc]; omega
      have b1 : ∀ i, W.cell? ⟨w.heap.size, i, none⟩ = (#[.bool true, .slice sa n sc, .int .i64 E] : Array Value)[i]? := by intro i; rw [hW]; go_simp
      have g0 : Grew w W := by rw [hW]; exact (Grew.refl _).alloc _
      clear hW
      go_wp2
      go_ret
      exact ⟨ret_int hR.out.symm, by (show Grew _ _; repeat (first | (with_reducible exact Grew.refl _) | (with_reducible assumption) | (with_reducible exact Grew.same_o) | (with_reducible exact Grew.app_o) | (with_reducible refine Grew.ext ?_ _ _) | (with_reducible refine Grew.alloc ?_ _) | ((with_reducible refine Grew.setCell ?_ ?_ _); rotate_left; (focus (dsimp only; first | omega | (simp only [size_ext, World.size_alloc, Array.size_append]; omega)))) | (with_reducible refine Grew.drewN ?_ _) | (with_reducible refine Grew.drew ?_)))⟩
set_option maxRecDepth 100000 in
set_option maxHeartbeats 1000000 in
/-- Sub. -/
theorem dsub_any (V1 V2 : Value) (p q : Rat) (lo hi : Int) (w : World) (h1 : DV w V1 p lo hi) (h2 : DV w V2 q lo hi) (hlo : -100000 ≤ lo) (hhi : hi ≤ 100000) :
   Calls Try.prog 29 #[V1, V2] w (fun e w' => ∃ v, e = .returned v ∧ DV w' v (p - q) lo (hi + 1) ∧ (∀ k, dBlock v = some k → w.heap.size ≤ k) ∧ ∃ o n, w' = ext w o n) := by
  have hm : ∀ w', Grew w w' → Calls Try.prog 81 #[V2] w' (fun e w2 => ∃ v, e = .returned v ∧ DV w2 v (-q) lo hi ∧ ∃ o n, w2 = ext w' o n) := fun w' g => by
    refine (dminus_any V2 q lo hi w' (h2.grew g)).mono fun e w2 hh => ?_
    obtain ⟨v, a1, a2, _, a4⟩ := hh
    exact ⟨v, a1, a2, a4⟩
  have ha : ∀ V w', Grew w w' → DV w' V (-q) lo hi → Calls Try.prog 31 #[V1, V] w' (fun e w2 => ∃ v, e = .returned v ∧ DV w2 v (p - q) lo (hi + 1) ∧ (∀ k, dBlock v = some k → w'.heap.size ≤ k) ∧ ∃ o n, w2 = ext w' o n) := fun V w' g hv => by
    have := dadd_any V1 V p (-q) lo hi w' (h1.grew g) hv hlo hhi
    rw [← Rat.sub_eq_add_neg] at this
    exact this
  obtain ⟨na, aa, al, ac, aE, rfl⟩ := h1.shape
  obtain ⟨nb, ba, bl, bc, bE, rfl⟩ := h2.shape
  clear h1 h2 hlo hhi
  go_enter Try.func29, Try.ntmps29
  refine seq_stop ?_
  go_wp2
  refine stop_go (fun W hW => ?_)
  have s1 : w.heap.size < W.heap.size := by rw [hW]; simp only [World.size_alloc]; omega
  have b1 : ∀ i, W.cell? ⟨w.heap.size, i, none⟩ = (#[.bool na, .slice aa al ac, .int .i64 aE] : Array Value)[i]? := by intro i; rw [hW]; go_simp
  have f1 : ∀ i, W.frozen? ⟨w.heap.size, i, none⟩ = false := by intro i; rw [hW]; go_simp
  have s2 : w.heap.size + 1 < W.heap.size := by rw [hW]; simp only [World.size_alloc]; omega
  have b2 : ∀ i, W.cell? ⟨w.heap.size + 1, i, none⟩ = (#[.bool nb, .slice ba bl bc, .int .i64 bE] : Array Value)[i]? := by intro i; rw [hW]; go_simp
  have f2 : ∀ i, W.frozen? ⟨w.heap.size + 1, i, none⟩ = false := by intro i; rw [hW]; go_simp
  have s3 : w.heap.size + 1 + 1 < W.heap.size := by rw [hW]; simp only [World.size_alloc]; omega
  have b3 : ∀ i, W.cell? ⟨w.heap.size + 1 + 1, i, none⟩ = (#[.bool false, .slice none 0 0, .int .i64 0] : Array Value)[i]? := by intro i; rw [hW]; go_simp
  have f3 : ∀ i, W.frozen? ⟨w.heap.size + 1 + 1, i, none⟩ = false := by intro i; rw [hW]; go_simp
  have g0 : Grew w W := by rw [hW]; exact (((Grew.refl _).alloc _).alloc _).alloc _
  clear hW
  go_wp2
  refine wp_region_R (Grew W) [4] [(0,0), (0,1), (1,2), (1,3), (2,4)] (by kernel_rfl) (by kernel_rfl) (fun _ _ _ _ h _ => h) (by first | exact ⟨_, _, ext_drew⟩ | exact ⟨_, _, drew_ext0⟩ | (show Grew _ _; repeat (first | (with_reducible exact Grew.refl _) | (with_reducible assumption) | (with_reducible exact Grew.same_o) | (with_reducible exact Grew.app_o) | (with_reducible refine Grew.ext ?_ _ _) | (with_reducible refine Grew.alloc ?_ _) | ((with_reducible refine Grew.setCell ?_ ?_ _); rotate_left; (focus (dsimp only; first | omega | (simp only [size_ext, World.size_alloc, Array.size_append]; omega)))) | (with_reducible refine Grew.drewN ?_ _) | (with_reducible refine Grew.drew ?_)))) ?_
  go_wp2_with (first | ((with_reducible refine wpR_id ?_); first | (refine wpR_take (v := ?_) rfl rfl ?_ ?_; rotate_left; (focus (rintro w' ⟨o', n', rfl⟩; go_simp; try with_reducible rfl)); simp only [Act.put, List.setIfInBounds_toArray, List.set_cons_zero, List.set_cons_succ]) | (refine wpR_pure (v := ?_) rfl rfl ?_ ?_; rotate_left; (focus (intro w'; go_simp; try with_reducible rfl)); simp only [Act.put, List.setIfInBounds_toArray, List.set_cons_zero, List.set_cons_succ]) | (refine wpR_takeG (v := ?_) rfl rfl rfl rfl rfl ?_ ?_; rotate_left; (focus (rintro w' ⟨o', n', rfl⟩; go_simp; try with_reducible rfl)); simp only [Act.put, List.setIfInBounds_toArray, List.set_cons_zero, List.set_cons_succ]) | (refine wpR_skip rfl rfl rfl rfl rfl rfl ?_; simp only [Act.put, List.setIfInBounds_toArray, List.set_cons_zero, List.set_cons_succ]) | (refine wpR_skipU rfl rfl rfl rfl rfl ?_; simp only [Act.put, List.setIfInBounds_toArray, List.set_cons_zero, List.set_cons_succ]) | (refine wpR_do rfl rfl (fun K hK => ?_)) | (refine wpR_doG rfl rfl rfl rfl rfl (fun K hK => ?_)) | (refine wpR_last rfl rfl (fun K hK => ?_)) | (refine wpR_nil ?_)) | ((with_reducible refine wpR_go ?_ ?_); (focus (show Grew _ _; repeat (first | (with_reducible exact Grew.refl _) | (with_reducible assumption) | (with_reducible exact Grew.same_o) | (with_reducible exact Grew.app_o) | (with_reducible refine Grew.ext ?_ _ _) | (with_reducible refine Grew.alloc ?_ _) | ((with_reducible refine Grew.setCell ?_ ?_ _); rotate_left; (focus (dsimp only; first | omega | (simp only [size_ext, World.size_alloc, Array.size_append]; omega)))) | (with_reducible refine Grew.drewN ?_ _) | (with_reducible refine Grew.drew ?_))))) | ((with_reducible refine upon_id ?_); refine upon_fop rfl (by assumption) (by assumption) ?_; intro rr nn hr) | (go_at_call 81; ((with_reducible refine (hm _ (Grew.trans g0 (by (show Grew _ _; repeat (first | (with_reducible exact Grew.refl _) | (with_reducible assumption) | (with_reducible exact Grew.same_o) | (with_reducible exact Grew.app_o) | (with_reducible refine Grew.ext ?_ _ _) | (with_reducible refine Grew.alloc ?_ _) | ((with_reducible refine Grew.setCell ?_ ?_ _); rotate_left; (focus (dsimp only; first | omega | (simp only [size_ext, World.size_alloc, Array.size_append]; omega)))) | (with_reducible refine Grew.drewN ?_ _) | (with_reducible refine Grew.drew ?_)))))).mono ?_); rintro e w1 ⟨u, rfl, hu, o1, k1, rfl⟩; (try simp only [drew_ext, drewN_ext, ext_ext] at hu); obtain ⟨un, ua, ul, uc, uE, rfl⟩ := hu.shape)) | (go_at_call 31; ((with_reducible refine (ha _ _ (Grew.trans g0 (by (show Grew _ _; repeat (first | (with_reducible exact Grew.refl _) | (with_reducible assumption) | (with_reducible exact Grew.same_o) | (with_reducible exact Grew.app_o) | (with_reducible refine Grew.ext ?_ _ _) | (with_reducible refine Grew.alloc ?_ _) | ((with_reducible refine Grew.setCell ?_ ?_ _); rotate_left; (focus (dsimp only; first | omega | (simp only [size_ext, World.size_alloc, Array.size_append]; omega)))) | (with_reducible refine Grew.drewN ?_ _) | (with_reducible refine Grew.drew ?_))))) hu).mono ?_); rintro e w1 ⟨v, rfl, hv, hbk, o2, k2, rfl⟩; obtain ⟨vn, va, vl, vc, vE, rfl⟩ := hv.shape)))
  rw [ext_ext] at hv
  refine bodyPost_ret (by simp [results, Try.results29, go_sem, *]; rfl) rfl ?_
  exact ⟨_, rfl, hv.ext_set3 s3 (fun k hk => by have := hbk k hk; simp only [size_ext] at this; omega) _ _ _, fun k hk => by have := hbk k hk; have := g0.below.size; simp only [size_ext] at *; omega, grew_set3 g0 (by omega) _ _ _ _ _⟩
set_option maxRecDepth 100000 in
set_option maxHeartbeats 1000000 in
/-- Cmp. -/
theorem dcmp_any (V1 V2 : Value) (p q : Rat) (lo hi : Int) (w : World) (h1 : DV w V1 p lo hi) (h2 : DV w V2 q lo hi) (hlo : -100000 ≤ lo) (hhi : hi ≤ 100000) :
   Calls Try.prog 34 #[V1, V2] w (fun e w' => e = .returned (.int .i64 (sgE (p - q))) ∧ ∃ o n, w' = ext w o n) := by
  have hm : ∀ w', Grew w w' → Calls Try.prog 29 #[V1, V2] w' (fun e w2 => ∃ v, e = .returned v ∧ DV w2 v (p - q) lo (hi + 1) ∧ ∃ o n, w2 = ext w' o n) := fun w' g => by
    refine (dsub_any V1 V2 p q lo hi w' (h1.grew g) (h2.grew g) hlo hhi).mono fun e w2 hh => ?_
    obtain ⟨v, a1, a2, _, a4⟩ := hh
    exact ⟨v, a1, a2, a4⟩
  obtain ⟨r, hr⟩ : ∃ r, r = sgE (p - q) := ⟨_, rfl⟩
  have hs : ∀ V w', DV w' V (p - q) lo (hi + 1) → Calls Try.prog 126 #[V] w' (fun e w2 => e = .returned (.int .i64 r) ∧ ∃ o n, w2 = ext w' o n) := fun V w' h => by
    rw [hr]; exact dsign_any V _ _ _ w' h
  rw [← hr]
  obtain ⟨na, aa, al, ac, aE, rfl⟩ := h1.shape
  obtain ⟨nb, ba, bl, bc, bE, rfl⟩ := h2.shape
  clear h1 h2 hlo hhi hr
  go_enter Try.func34, Try.ntmps34
  refine seq_stop ?_
  go_wp2
  refine stop_go (fun W hW => ?_)
  have s1 : w.heap.size < W.heap.size := by rw [hW]; simp only [World.size_alloc]; omega
  have b1 : ∀ i, W.cell? ⟨w.heap.size, i, none⟩ = (#[.bool na, .slice aa al ac, .int .i64 aE] : Array Value)[i]? := by intro i; rw [hW]; go_simp
  have s2 : w.heap.size + 1 < W.heap.size := by rw [hW]; simp only [World.size_alloc]; omega
  have b2 : ∀ i, W.cell? ⟨w.heap.size + 1, i, none⟩ = (#[.bool nb, .slice ba bl bc, .int .i64 bE] : Array Value)[i]? := by intro i; rw [hW]; go_simp
  have g0 : Grew w W := by rw [hW]; exact ((Grew.refl _).alloc _).alloc _
  clear hW
  go_wp2_with (first | (go_at_call 29; ((with_reducible refine (hm _ (Grew.trans g0 (by (show Grew _ _; repeat (first | (with_reducible exact Grew.refl _) | (with_reducible assumption) | (with_reducible exact Grew.same_o) | (with_reducible exact Grew.app_o) | (with_reducible refine Grew.ext ?_ _ _) | (with_reducible refine Grew.alloc ?_ _) | ((with_reducible refine Grew.setCell ?_ ?_ _); rotate_left; (focus (dsimp only; first | omega | (simp only [size_ext, World.size_alloc, Array.size_append]; omega)))) | (with_reducible refine Grew.drewN ?_ _) | (with_reducible refine Grew.drew ?_)))))).mono ?_); rintro e w1 ⟨u, rfl, hu, o1, k1, rfl⟩; obtain ⟨un, ua, ul, uc, uE, rfl⟩ := hu.shape)) | (go_at_call 126; ((with_reducible refine (hs _ _ hu).mono ?_); rintro e w1 ⟨rfl, o2, k2, rfl⟩)))
  go_ret
  exact ⟨rfl, Grew.trans g0 (by (show Grew _ _; repeat (first | (with_reducible exact Grew.refl _) | (with_reducible assumption) | (with_reducible exact Grew.same_o) | (with_reducible exact Grew.app_o) | (with_reducible refine Grew.ext ?_ _ _) | (with_reducible refine Grew.alloc ?_ _) | ((with_reducible refine Grew.setCell ?_ ?_ _); rotate_left; (focus (dsimp only; first | omega | (simp only [size_ext, World.size_alloc, Array.size_append]; omega)))) | (with_reducible refine Grew.drewN ?_ _) | (with_reducible refine Grew.drew ?_))))⟩
end Go.Proofs.Ytcmggfpcbijcjaa
end
section
/-
  Contracts: the reference's digits (layer 2): Mul.
-/
set_option linter.unusedSimpArgs false
set_option linter.unusedVariables false
open Go Go.RowKit Sedge
namespace Go.Proofs.Ytcmggfpcbijcjaa
theorem dat_mul (n1 n2 : Bool) (x y : Nat) (E F : Int) : dat (n1 != n2) (x * y) (16 * (E + F)) = dat n1 x (16 * E) * dat n2 y (16 * F) := by
  have := product_val n1 n2 x y (16 * E) (16 * F)
  rw [← this]
  congr 1
  · omega
set_option maxRecDepth 100000 in
set_option maxHeartbeats 8000000 in
/-- Mul. -/
theorem dmul_any (V1 V2 : Value) (p q : Rat) (lo1 hi1 lo2 hi2 : Int) (w : World) (h1 : DV w V1 p lo1 hi1) (h2 : DV w V2 q lo2 hi2) (hlo1 : -100000 ≤ lo1) (hhi1 : hi1 ≤ 100000) (hlo2 : -100000 ≤ lo2) (hhi2 : hi2 ≤ 100000) :
   Calls Try.prog 28 #[V1, V2] w (fun e w' => ∃ v, e = .returned v ∧ DV w' v (p * q) (lo1 + lo2) (hi1 + hi2 + 1) ∧ (∀ k, dBlock v = some k → w.heap.size ≤ k) ∧ ∃ o n, w' = ext w o n) := by
  obtain ⟨n1, L1, E, a, rfl, ha, hda, hp, hz1, he1, hr1⟩ := h1
  obtain ⟨n2, L2, F, b, rfl, hb, hdb, hq, hz2, he2, hr2⟩ := h2
  obtain ⟨s1', c1', e1⟩ := ha.shape
  obtain ⟨s2', c2', e2⟩ := hb.shape
  subst e1 e2
  have hE : -100000 ≤ E ∧ E ≤ 100000 ∧ a.length ≤ 200000 := by
    by_cases hl : a = []
    · subst hl; have := (he1 rfl).1; simp; omega
    · have := hr1 hl; omega
  have hF : -100000 ≤ F ∧ F ≤ 100000 ∧ b.length ≤ 200000 := by
    by_cases hl : b = []
    · subst hl; have := (he2 rfl).1; simp; omega
    · have := hr2 hl; omega
  obtain ⟨r, hr⟩ : ∃ r, Hid (r = p * q) := ⟨_, hid rfl⟩
  rw [← hr.out]
  have hmade : ∀ L' l' w', NS w' L' l' → Dg l' → l'.length = a.length + b.length + 1 → dv l' = dv a * dv b → Calls Try.prog 120 #[.bool (!(n1 == n2)), L', .int .i64 (E + F)] w' (fun e w2 => ∃ v, e = .returned v ∧ DV w2 v r (lo1 + lo2) (hi1 + hi2 + 1) ∧ (∀ k, dBlock v = some k → L'.ownBlock = some k) ∧ ∃ o n, w2 = ext w' o n) := fun L' l' w' b1 b2 b3 b4 => by
    refine (made_any (!(n1 == n2)) L' l' (E + F) w' b1 b2 (by omega) (by omega)).mono fun e w2 hh => ?_
    obtain ⟨v, d1, d2, d3, d4⟩ := hh
    refine ⟨v, d1, ?_, d3, d4⟩
    have e1 : dat (!(n1 == n2)) (dv l') (16 * (E + F)) = r := by rw [hr.out, hp, hq, b4]; exact dat_mul n1 n2 _ _ E F
    rw [e1] at d2
    by_cases hae : a = []
    · have r0 : r = 0 := by rw [hr.out, hp, hae]; show dat n1 0 _ * q = 0; rw [dat_zero]; grind
      rw [r0] at d2 ⊢
      exact d2.zero
    · by_cases hbe : b = []
      · have r0 : r = 0 := by rw [hr.out, hq, hbe]; show p * dat n2 0 _ = 0; rw [dat_zero]; grind
        rw [r0] at d2 ⊢
        exact d2.zero
      · have := hr1 hae
        have := hr2 hbe
        exact d2.mono (by omega) (by omega)
  have hA : ∀ i, a.getD i 0 < 65536 := hda.get
  have hB : ∀ i, b.getD i 0 < 65536 := hdb.get
  have hdvb : dv b < 65536 ^ b.length := dv_lt hdb
  have hdsl : ds (fun j => a.getD j 0) a.length = dv a := ds_list a
  have hdslb : ds (fun j => b.getD j 0) b.length = dv b := ds_list b
  have hdsa : ∀ i, ds (fun j => a.getD j 0) i < 65536 ^ i := ds_lt hA
  have hca : 0 < a.length → ∃ blk o, s1' = some ⟨blk, o, none⟩ ∧ blk < w.heap.size ∧ ∀ i, i < a.length → w.cell? ⟨blk, o + i, none⟩ = some (.int .i64 (a.getD i 0 : Nat)) := ha.at.2.2
  have hcb : 0 < b.length → ∃ blk o, s2' = some ⟨blk, o, none⟩ ∧ blk < w.heap.size ∧ ∀ i, i < b.length → w.cell? ⟨blk, o + i, none⟩ = some (.int .i64 (b.getD i 0 : Nat)) := hb.at.2.2
  obtain ⟨la, hla⟩ : ∃ la, la = a.length := ⟨_, rfl⟩
  obtain ⟨lb, hlb⟩ : ∃ lb, lb = b.length := ⟨_, rfl⟩
  obtain ⟨DA, hDA⟩ : ∃ DA, DA = dv a := ⟨_, rfl⟩
  obtain ⟨DB, hDB⟩ : ∃ DB, DB = dv b := ⟨_, rfl⟩
  obtain ⟨fa, hfa⟩ : ∃ fa : Nat → Nat, fa = fun j => a.getD j 0 := ⟨_, rfl⟩
  obtain ⟨fb, hfb⟩ : ∃ fb : Nat → Nat, fb = fun j => b.getD j 0 := ⟨_, rfl⟩
  have hA' : ∀ i, fa i < 65536 := fun i => by rw [hfa]; exact hA i
  have hB' : ∀ i, fb i < 65536 := fun i => by rw [hfb]; exact hB i
  have hca' : 0 < la → ∃ blk o, s1' = some ⟨blk, o, none⟩ ∧ blk < w.heap.size ∧ ∀ i, i < la → w.cell? ⟨blk, o + i, none⟩ = some (.int .i64 (fa i : Nat)) := by rw [hla, hfa]; exact hca
  have hcb' : 0 < lb → ∃ blk o, s2' = some ⟨blk, o, none⟩ ∧ blk < w.heap.size ∧ ∀ i, i < lb → w.cell? ⟨blk, o + i, none⟩ = some (.int .i64 (fb i : Nat)) := by rw [hlb, hfb]; exact hcb
  rw [← hla, ← hlb, ← hDA, ← hDB] at hmade
  rw [← hlb, ← hDB] at hdvb
  rw [← hla, ← hfa, ← hDA] at hdsl
  rw [← hlb, ← hfb, ← hDB] at hdslb
  rw [← hfa] at hdsa
  rw [← hla, ← hlb]
  have hla2 : la ≤ 200000 := by omega
  have hlb2 : lb ≤ 200000 := by omega
  have HDS := hid hdsl
  have HDSB := hid hdslb
  have HDVB := hid hdvb
  have HDSA := hid hdsa
  have HCA := hid hca'
  have HCB := hid hcb'
  have HFA := hid hA'
  have HFB := hid hB'
  clear hA hB hca hcb hla hlb hDA hDB hfa hfb ha hb hda hdb hp hq hz1 hz2 he1 he2 hr1 hr2 hr hdsl hdslb hdvb hdsa hca' hcb' hA' hB'
  go_enter Try.func28, Try.ntmps28
  refine seq_stop ?_
  go_wp2
  refine stop_go (fun W hW => ?_)
  have s1 : w.heap.size < W.heap.size := by rw [hW]; simp only [World.size_alloc]; omega
  have b1 : ∀ i, W.cell? ⟨w.heap.size, i, none⟩ = (#[.bool n1, .slice s1' la c1', .int .i64 E] : Array Value)[i]? := by intro i; rw [hW]; go_simp
  have f1 : ∀ i, W.frozen? ⟨w.heap.size, i, none⟩ = false := by intro i; rw [hW]; go_simp
  have s2 : w.heap.size + 1 < W.heap.size := by rw [hW]; simp only [World.size_alloc]; omega
  have b2 : ∀ i, W.cell? ⟨w.heap.size + 1, i, none⟩ = (#[.bool n2, .slice s2' lb c2', .int .i64 F] : Array Value)[i]? := by intro i; rw [hW]; go_simp
  have f2 : ∀ i, W.frozen? ⟨w.heap.size + 1, i, none⟩ = false := by intro i; rw [hW]; go_simp
  have s3 : w.heap.size + 1 + 1 < W.heap.size := by rw [hW]; simp only [World.size_alloc]; omega
  have b3 : ∀ i, W.cell? ⟨w.heap.size + 1 + 1, i, none⟩ = (#[.bool false, .slice none 0 0, .int .i64 0] : Array Value)[i]? := by intro i; rw [hW]; go_simp
  have f3 : ∀ i, W.frozen? ⟨w.heap.size + 1 + 1, i, none⟩ = false := by intro i; rw [hW]; go_simp
  have g0 : Grew w W := by rw [hW]; exact (((Grew.refl _).alloc _).alloc _).alloc _
  clear hW
  have zW := g0.below.size
  go_wp2_with (first | (at_make; refine make_n iundN iinfoN (Grew.refl W) _ _ rfl rfl (la + lb + 1) (by omega) rfl rfl (by omega) ?_; intro oo nn g hg hB))
  refine name_any (fun V hV => ?_)
  have gV : Grew W V := by rw [← hV]; (show Grew _ _; repeat (first | (with_reducible exact Grew.refl _) | (with_reducible assumption) | (with_reducible exact Grew.same_o) | (with_reducible exact Grew.app_o) | (with_reducible refine Grew.ext ?_ _ _) | (with_reducible refine Grew.alloc ?_ _) | ((with_reducible refine Grew.setCell ?_ ?_ _); rotate_left; (focus (dsimp only; first | omega | (simp only [size_ext, World.size_alloc, Array.size_append]; omega)))) | (with_reducible refine Grew.drewN ?_ _) | (with_reducible refine Grew.drew ?_)))
  rw [hV] at hB
  clear hV
  have zV := gV.below.size
  have kgV := hB.lt
  have c1 : ∀ i, V.cell? ⟨w.heap.size, i, none⟩ = (#[.bool n1, .slice s1' la c1', .int .i64 E] : Array Value)[i]? := fun i => (gV.cell s1).trans (b1 i)
  have c2 : ∀ i, V.cell? ⟨w.heap.size + 1, i, none⟩ = (#[.bool n2, .slice s2' lb c2', .int .i64 F] : Array Value)[i]? := fun i => (gV.cell s2).trans (b2 i)
  have c3 : ∀ i, V.cell? ⟨w.heap.size + 1 + 1, i, none⟩ = (#[.bool false, .slice none 0 0, .int .i64 0] : Array Value)[i]? := fun i => (gV.cell s3).trans (b3 i)
  have fz : ∀ i, V.frozen? ⟨g, i, none⟩ = false := hB.notFrozen
  have fz2 : ∀ i, V.frozen? ⟨w.heap.size + 1 + 1, i, none⟩ = false := fun i => (gV.frozen s3).trans (f3 i)
  have k1 : w.heap.size < V.heap.size := by omega
  have k2 : w.heap.size + 1 < V.heap.size := by omega
  have k3 : w.heap.size + 1 + 1 < V.heap.size := by omega
  have n1' : w.heap.size ≠ g := by omega
  have n2' : w.heap.size + 1 ≠ g := by omega
  have n3' : w.heap.size + 1 + 1 ≠ g := by omega
  have gw : Grew w V := Grew.trans g0 gV
  clear b1 b2 b3 f1 f2 f3
  go_loopw [6] (fun c wx => ∃ (i : Nat) (m : List Nat) (o : Array Obj) (n : Nat), i ≤ la ∧ c = .int .i64 i ∧ wx = ext (upd V g (ia m)) o n ∧ m.length = la + lb + 1 ∧ Dg m ∧ dv m = ds fa i * DB) (fun c _ => la - (intOf c).toNat)
  case atStart => exact ⟨0, List.replicate (la + lb + 1) 0, #[], V.drawn, Nat.zero_le _, rfl, by rw [hB.self]; exact ext_zero.symm, by simp, Dg.replicate _, by rw [dv_replicate]; simp [ds]⟩
  case round =>
    obtain ⟨i, m, o, n, hi, rfl, rfl, hml, hmD, hmV⟩ := hrel
    by_cases hlt : i < la
    · obtain ⟨blk, so, rfl, hblk, hcl⟩ := HCA.out (by omega)
      have hci := (gw.cell hblk).trans (hcl i hlt)
      have kb : blk < V.heap.size := by omega
      have nb : blk ≠ g := by omega
      have hX16 := HFA.out i
      have hT : ds fa (i + 1) * DB = dv m + fa i * 65536 ^ i * DB := by rw [hmV]; show (ds fa i + fa i * 65536 ^ i) * DB = _; rw [Nat.add_mul]
      have hTlt : ds fa (i + 1) * DB < 65536 ^ (la + lb) := by
        have h1 := HDSA.out (i + 1)
        have h2 : 65536 ^ (i + 1) ≤ 65536 ^ la := Nat.pow_le_pow_right (by decide) hlt
        rw [Nat.pow_add]
        exact Nat.mul_lt_mul'' (by omega) HDVB.out
      obtain ⟨TT, hTT⟩ : ∃ TT, TT = ds fa (i + 1) * DB := ⟨_, rfl⟩
      rw [← hTT] at hT hTlt
      obtain ⟨X, hX⟩ : ∃ X, X = fa i := ⟨_, rfl⟩
      rw [← hX] at hci hX16 hT
      have HTT := hid hTT
      have HT := hid hT
      have HTL := hid hTlt
      have HML := hid hml
      clear hcl hX hTT hT hmV hTlt
      go_wp2
      go_loopw [7, 8] (fun u c wx => ∃ (k : Nat) (y : Nat) (m' : List Nat) (o : Array Obj) (n : Nat), k ≤ lb ∧ u = .int .i64 y ∧ c = .int .i64 k ∧ wx = ext (upd V g (ia m')) o n ∧ m'.length = la + lb + 1 ∧ Dg m' ∧ y < 65536 ∧ dv m' + y * 65536 ^ (i + k) = dv m + X * 65536 ^ i * ds fb k) (fun _ c _ => lb - (intOf c).toNat)
      case atStart => exact ⟨0, 0, m, o, n, Nat.zero_le _, rfl, rfl, rfl, HML.out, hmD, by decide, by simp [ds]⟩
      case round =>
        obtain ⟨k, y, m', o, n, hk, rfl, rfl, rfl, hml', hmD', hy, hV'⟩ := hrel
        have hiN : i ≤ 200000 := by omega
        by_cases hkl : k < lb
        · obtain ⟨blk2, so2, rfl, hblk2, hcl2⟩ := HCB.out (by omega)
          have hck := (gw.cell hblk2).trans (hcl2 k hkl)
          have kb2 : blk2 < V.heap.size := by omega
          have nb2 : blk2 ≠ g := by omega
          have hY16 := HFB.out k
          obtain ⟨Y, hY⟩ : ∃ Y, Y = fb k := ⟨_, rfl⟩
          rw [← hY] at hck hY16
          obtain ⟨Z, hZ⟩ : ∃ Z, Z = m'.getD (i + k) 0 := ⟨_, rfl⟩
          have hZ16 : Z < 65536 := by rw [hZ]; exact hmD'.get _
          have hmi : (upd V g (ia m')).cell? ⟨g, i + k, none⟩ = some (.int .i64 (Z : Int)) := by rw [hB.get (by omega), hZ]
          obtain ⟨I, hI⟩ : ∃ I, I = i + k := ⟨_, rfl⟩
          rw [← hI] at hmi
          have w5 : IntKind.i64.wrap ((i : Int) + (k : Int)) = (I : Int) := by rw [IntWalk.i64_in _ (by omega)]; omega
          have hIlt : I < la + lb + 1 := by omega
          have hIltZ : ((I : Int) < (la : Int) + lb + 1) = True := by simp; omega
          have hms := mul_step (l := m') (i := i + k) (c := y) (a := X) (b := Y) (by omega)
          have hmc := mul_carry hy hX16 hY16 hZ16
          rw [← hZ] at hms
          obtain ⟨P, hP⟩ : ∃ P, P = X * Y := ⟨_, rfl⟩
          obtain ⟨S, hS⟩ : ∃ S, S = y + P + Z := ⟨_, rfl⟩
          rw [← hP] at hms hmc
          rw [← hS] at hms hmc
          obtain ⟨hS1, hS2⟩ := hmc
          obtain ⟨Mo, hMo⟩ : ∃ Mo, Mo = S % 65536 := ⟨_, rfl⟩
          obtain ⟨Di, hDi⟩ : ∃ Di, Di = S / 65536 := ⟨_, rfl⟩
          have w0 : (X : Int) * (Y : Int) = (P : Int) := by rw [hP]; simp
          have w1 : IntKind.i64.wrap ((X : Int) * (Y : Int)) = (P : Int) := by rw [w0]; exact IntWalk.i64_in _ (by omega)
          have w2 : IntKind.i64.wrap ((y : Int) + P) = (y : Int) + P := IntWalk.i64_in _ (by omega)
          have w3 : IntKind.i64.wrap ((y : Int) + P + Z) = (S : Int) := by rw [IntWalk.i64_in _ (by omega)]; omega
          have m1 : (S : Int).tmod 65536 = (Mo : Int) := by rw [Int.tmod_eq_emod_of_nonneg (by omega)]; omega
          have m2 : (S : Int).tdiv 65536 = (Di : Int) := by rw [Int.tdiv_eq_ediv_of_nonneg (by omega)]; omega
          have m1' : (S : Int) % 65536 = (Mo : Int) := by omega
          have m2' : (S : Int) / 65536 = (Di : Int) := by omega
          have hMo16 : Mo < 65536 := by omega
          have hDi16 : Di < 65536 := by omega
          rw [← hMo, ← hDi] at hms
          have hst : dv (m'.set (i + k) Mo) + Di * 65536 ^ (i + (k + 1)) = dv m + X * 65536 ^ i * ds fb (k + 1) := by
            show _ = dv m + X * 65536 ^ i * (ds fb k + fb k * 65536 ^ k)
            rw [← Nat.add_assoc i k 1, hms, hV', ← hY, hP, Nat.mul_add, Nat.pow_add]
            rw [show X * 65536 ^ i * (Y * 65536 ^ k) = X * Y * (65536 ^ i * 65536 ^ k) by rw [Nat.mul_assoc, Nat.mul_assoc, Nat.mul_left_comm (65536 ^ i)]]
            omega
          have HST := hid hst
          have HML' := hid hml'
          have HI := hid hI
          clear hst hms hY hZ hP hS hMo hDi w0 hcl2 hV' hml' hS2 hI
          go_wp2
          refine wp_region_R (Grew (ext (upd V g (ia m')) o n)) [] [(0,0), (0,1), (0,2), (0,3), (0,4), (0,5), (0,6), (0,7), (0,8), (0,9), (0,10), (0,11), (0,12), (0,13), (0,14), (0,15), (0,16), (0,17), (0,18), (0,19), (0,20)] (by kernel_rfl) (by kernel_rfl) (fun _ _ _ _ h _ => h) (by first | exact ⟨_, _, ext_drew⟩ | exact ⟨_, _, drew_ext0⟩ | (show Grew _ _; repeat (first | (with_reducible exact Grew.refl _) | (with_reducible assumption) | (with_reducible exact Grew.same_o) | (with_reducible exact Grew.app_o) | (with_reducible refine Grew.ext ?_ _ _) | (with_reducible refine Grew.alloc ?_ _) | ((with_reducible refine Grew.setCell ?_ ?_ _); rotate_left; (focus (dsimp only; first | omega | (simp only [size_ext, World.size_alloc, Array.size_append]; omega)))) | (with_reducible refine Grew.drewN ?_ _) | (with_reducible refine Grew.drew ?_)))) ?_
          go_wp2_with (first | ((with_reducible refine wpR_id ?_); first | (refine wpR_take (v := ?_) rfl rfl ?_ ?_; rotate_left; (focus (rintro w' ⟨o', n', rfl⟩; go_simp; try with_reducible rfl)); simp only [Act.put, List.setIfInBounds_toArray, List.set_cons_zero, List.set_cons_succ]) | (refine wpR_pure (v := ?_) rfl rfl ?_ ?_; rotate_left; (focus (intro w'; go_simp; try with_reducible rfl)); simp only [Act.put, List.setIfInBounds_toArray, List.set_cons_zero, List.set_cons_succ]) | (refine wpR_takeG (v := ?_) rfl rfl rfl rfl rfl ?_ ?_; rotate_left; (focus (rintro w' ⟨o', n', rfl⟩; go_simp; try with_reducible rfl)); simp only [Act.put, List.setIfInBounds_toArray, List.set_cons_zero, List.set_cons_succ]) | (refine wpR_skip rfl rfl rfl rfl rfl rfl ?_; simp only [Act.put, List.setIfInBounds_toArray, List.set_cons_zero, List.set_cons_succ]) | (refine wpR_skipU rfl rfl rfl rfl rfl ?_; simp only [Act.put, List.setIfInBounds_toArray, List.set_cons_zero, List.set_cons_succ]) | (refine wpR_do rfl rfl (fun K hK => ?_)) | (refine wpR_doG rfl rfl rfl rfl rfl (fun K hK => ?_)) | (refine wpR_last rfl rfl (fun K hK => ?_)) | (refine wpR_nil ?_)) | ((with_reducible refine wpR_go ?_ ?_); (focus (show Grew _ _; repeat (first | (with_reducible exact Grew.refl _) | (with_reducible assumption) | (with_reducible exact Grew.same_o) | (with_reducible exact Grew.app_o) | (with_reducible refine Grew.ext ?_ _ _) | (with_reducible refine Grew.alloc ?_ _) | ((with_reducible refine Grew.setCell ?_ ?_ _); rotate_left; (focus (dsimp only; first | omega | (simp only [size_ext, World.size_alloc, Array.size_append]; omega)))) | (with_reducible refine Grew.drewN ?_ _) | (with_reducible refine Grew.drew ?_))))) | ((with_reducible refine upon_id ?_); refine upon_fop rfl (by assumption) (by assumption) ?_; intro rr nn hr))
          go_roundw
          case rel => exact ⟨k + 1, Di, m'.set (i + k) Mo, o, n + 1, hkl, rfl, by go_num, by rw [← ia_set, HI.out], by simp; exact HML'.out, hmD'.set _ hMo16, hDi16, HST.out⟩
          case measure => simp [intOf]; omega
        · have e : k = lb := by omega
          have hV2 : dv m' + y * 65536 ^ (i + lb) = TT := by
            rw [e] at hV'
            rw [hV', HDSB.out, HT.out]
          clear hV'
          subst e
          go_wp2
          go_loopw [7, 9] (fun u c wx => ∃ (K : Nat) (y : Nat) (m' : List Nat) (o : Array Obj) (n : Nat), i + k ≤ K ∧ K ≤ la + k + 1 ∧ u = .int .i64 y ∧ c = .int .i64 K ∧ wx = ext (upd V g (ia m')) o n ∧ m'.length = la + k + 1 ∧ Dg m' ∧ y < 65536 ∧ dv m' + y * 65536 ^ K = TT) (fun _ c _ => la + k + 1 - (intOf c).toNat)
          case atStart => exact ⟨i + k, y, m', o, n, Nat.le_refl _, by omega, rfl, by go_num, rfl, hml', hmD', hy, hV2⟩
          case round =>
            obtain ⟨K, y, m', o, n, hK, hK2, rfl, rfl, rfl, hml', hmD', hy, hV'⟩ := hrel
            by_cases hy0 : y = 0
            · subst hy0
              have hfin : dv m' = ds fa (i + 1) * DB := by rw [← HTT.out, ← hV']; simp
              clear hV'
              go_wp2
              go_roundw
              case rel => exact ⟨i + 1, m', o, n, hlt, by go_num, rfl, hml', hmD', hfin⟩
              case measure => simp [intOf]; omega
            · have hKlt : K < la + k + 1 := by
                rcases Nat.lt_or_ge K (la + k) with h | h
                · omega
                · exfalso
                  have h1 : 65536 ^ (la + k) ≤ 65536 ^ K := Nat.pow_le_pow_right (by decide) h
                  have h2 : 1 * 65536 ^ K ≤ y * 65536 ^ K := Nat.mul_le_mul_right _ (by omega)
                  have := HTL.out
                  omega
              obtain ⟨Z, hZ⟩ : ∃ Z, Z = m'.getD K 0 := ⟨_, rfl⟩
              have hZ16 : Z < 65536 := by rw [hZ]; exact hmD'.get _
              have hmi : (upd V g (ia m')).cell? ⟨g, K, none⟩ = some (.int .i64 (Z : Int)) := by rw [hB.get (by omega), hZ]
              have hms := mul_step (l := m') (i := K) (c := y) (a := 0) (b := 0) (by omega)
              rw [← hZ, Nat.zero_mul, Nat.zero_mul, Nat.add_zero, Nat.add_zero, hV'] at hms
              obtain ⟨S, hS⟩ : ∃ S, S = y + Z := ⟨_, rfl⟩
              rw [← hS] at hms
              obtain ⟨Mo, hMo⟩ : ∃ Mo, Mo = S % 65536 := ⟨_, rfl⟩
              obtain ⟨Di, hDi⟩ : ∃ Di, Di = S / 65536 := ⟨_, rfl⟩
              have w3 : IntKind.i64.wrap ((y : Int) + Z) = (S : Int) := by rw [IntWalk.i64_in _ (by omega)]; omega
              have w4 : (y : Int) + Z = (S : Int) := by omega
              have m1 : (S : Int).tmod 65536 = (Mo : Int) := by rw [Int.tmod_eq_emod_of_nonneg (by omega)]; omega
              have m2 : (S : Int).tdiv 65536 = (Di : Int) := by rw [Int.tdiv_eq_ediv_of_nonneg (by omega)]; omega
              have m1' : (S : Int) % 65536 = (Mo : Int) := by omega
              have m2' : (S : Int) / 65536 = (Di : Int) := by omega
              have hMo16 : Mo < 65536 := by omega
              have hDi16 : Di < 65536 := by omega
              have hKltZ : ((K : Int) < (la : Int) + k + 1) = True := by simp; omega
              have hypos : decide (0 < (y : Int)) = true := by simp; omega
              rw [← hMo, ← hDi] at hms
              have HST := hid hms
              have HML' := hid hml'
              have HK := hid hKlt
              clear hms hZ hS hMo hDi hV' hml'
              go_wp2
              go_roundw
              case rel => exact ⟨K + 1, Di, m'.set K Mo, o, n, by omega, HK.out, rfl, by go_num, by rw [← ia_set], by simp; exact HML'.out, hmD'.set _ hMo16, hDi16, HST.out⟩
              case measure => simp [intOf]; omega
    · have e : i = la := by omega
      have hdv : dv m = DA * DB := by rw [hmV, e, HDS.out]
      have hns : NS (ext (upd V g (ia m)) o n) (.slice (some ⟨g, 0, none⟩) (la + lb + 1) (la + lb + 1)) m := by
        have h5 := hB.mk' m o n
        have h6 := h5.ns (cap := la + lb + 1) (by rw [hml]; exact Nat.le_refl _)
        rw [hml] at h6
        exact h6
      have aQ : IntKind.i64.wrap (E + F) = E + F := IntWalk.i64_in _ (by omega)
      have HDV := hid hdv
      have HH := hid hml
      subst e
      clear hdv hmV hml
      go_wp2_with (first | (go_at_call 120; ((with_reducible refine (hmade _ m _ hns hmD HH.out HDV.out).mono ?_); rintro e w1 ⟨v, rfl, hv, hbk, o2, n2, rfl⟩; obtain ⟨vn, va, vl, vc, vE, rfl⟩ := hv.shape)))
      have hbk2 : ∀ k, dBlock (.agg #[.bool vn, .slice va vl vc, .int .i64 vE]) = some k → k = g := fun k hk => by have := hbk k hk; cases this; rfl
      rw [ext_ext] at hv
      have gX : Grew w (upd V g (ia m)) := gw.upd (by omega) _
      have kX : w.heap.size + 1 + 1 < (upd V g (ia m)).heap.size := by simpa using k3
      have cX : ∀ i, (upd V g (ia m)).cell? ⟨w.heap.size + 1 + 1, i, none⟩ = (#[.bool false, .slice none 0 0, .int .i64 0] : Array Value)[i]? := fun i => by rw [cell_upd_ne n3', c3]
      generalize upd V g (ia m) = X at *
      clear hmade hB hns c1 c2 c3 fz fz2 HDV HH hbk HCA HCB HFA HFB HDS HDSB HDVB HDSA k1 k2 k3 gw gV g0
      refine bodyPost_ret (by simp [results, Try.results28, go_sem, kX, cX]; rfl) rfl ?_
      exact ⟨_, rfl, hv.ext_set3 kX (fun k hk => by have := hbk2 k hk; omega) _ _ _, fun k hk => by have := hbk2 k hk; omega, grew_set3 gX (by omega) _ _ _ _ _⟩
end Go.Proofs.Ytcmggfpcbijcjaa
end
section
/-
  Worlds that grew: arrays of new blocks, however they are bracketed.
-/
set_option linter.unusedSimpArgs false
set_option linter.unusedVariables false
namespace Sedge
open Go Go.RowKit
theorem Grew.app_r {X U : World} {o o' : Array Obj} {n : Nat} (h : Grew X (Sedge.ext U o n)) : Grew X (Sedge.ext U (o ++ o') n) := h.trans ⟨o', n, by simp⟩
end Sedge
end
section
/-
  Boxes: blocks of cells that may be written; numbers of the reference whose digits lie elsewhere.
-/
set_option linter.unusedSimpArgs false
set_option linter.unusedVariables false
open Go Go.RowKit Sedge
namespace Go.Proofs.Ytcmggfpcbijcjaa
def Box (w : World) (p : Nat) (cs : Array Value) : Prop := ∃ e, w.heap[p]? = some (.cells cs e (0, 0))
section
variable {w w' : World} {p q : Nat} {cs : Array Value}
theorem Box.lt (h : Box w p cs) : p < w.heap.size := by
  obtain ⟨e, h⟩ := h
  exact (Array.getElem?_eq_some_iff.1 h).1
theorem Box.cell (h : Box w p cs) (i : Nat) : w.cell? ⟨p, i, none⟩ = cs[i]? := by
  obtain ⟨e, h⟩ := h
  unfold World.cell?
  simp only [h]
  rfl
theorem Box.frozen (h : Box w p cs) (i : Nat) : w.frozen? ⟨p, i, none⟩ = false := by
  obtain ⟨e, h⟩ := h
  unfold World.frozen?
  simp only [h]
  simp
theorem Box.grew (h : Box w p cs) (g : Grew w w') : Box w' p cs := by
  have hl := h.lt
  obtain ⟨e, h⟩ := h
  exact ⟨e, by rw [g.below.block p hl]; exact h⟩
theorem Box.new (w : World) (cs : Array Value) (e : TypeId) : Box (w.alloc (.cells cs e)) w.heap.size cs := ⟨e, by show (w.heap.push _)[w.heap.size]? = _; simp⟩
theorem Box.new' {w : World} {cs : Array Value} {e : TypeId} {n : Nat} (hn : n = w.heap.size) : Box (w.alloc (.cells cs e)) n cs := by subst hn; exact Box.new w cs e
theorem Box.upd_self (h : Box w p cs) (cs' : Array Value) : Box (upd w p cs') p cs' := by
  obtain ⟨e, h⟩ := h
  exact ⟨e, block_upd h⟩
theorem Box.upd_ne (h : Box w p cs) (hn : p ≠ q) (cs' : Array Value) : Box (upd w q cs') p cs := by
  obtain ⟨e, h⟩ := h
  exact ⟨e, by rw [block_upd_ne hn]; exact h⟩
theorem Box.self (h : Box w p cs) : upd w p cs = w := by
  obtain ⟨e, h1⟩ := h
  unfold upd
  cases w with | mk hp tp dr os' out => ?_
  simp only [World.mk.injEq, true_and, and_true] at *
  apply Array.ext_getElem?
  intro i
  rw [Array.getElem?_modify]
  split
  · rename_i he; subst he; rw [h1]; rfl
  · rfl
theorem Box.set3 (h : Box w p cs) (hs : cs.size = 3) (x y z : Value) : ((w.setCell ⟨p, 0, none⟩ x).setCell ⟨p, 1, none⟩ y).setCell ⟨p, 2, none⟩ z = upd w p #[x, y, z] := by
  have e : w = upd w p cs := h.self.symm
  rw [e, setCell_upd, setCell_upd, setCell_upd, upd_upd]
  congr 1
  match cs, hs with
  | ⟨[a, b, c]⟩, _ => rfl
theorem Box.set3_ext (h : Box w p cs) (hs : cs.size = 3) (x y z : Value) (o : Array Obj) (n : Nat) : Sedge.ext (((w.setCell ⟨p, 0, none⟩ x).setCell ⟨p, 1, none⟩ y).setCell ⟨p, 2, none⟩ z) o n = upd (Sedge.ext w o n) p #[x, y, z] := by
  rw [h.set3 hs, upd_ext h.lt]
end
/-- Its digits lie in none of these blocks. -/
def dNot (v : Value) (S : List Nat) : Prop := ∀ k, dBlock v = some k → dLen v ≠ 0 → k ∉ S
theorem dNot.mono {v : Value} {S T : List Nat} (h : dNot v S) (hs : ∀ k, k ∈ T → k ∈ S) : dNot v T := fun k h1 h2 h3 => h k h1 h2 (hs k h3)
theorem dNot.of_new {v : Value} {S : List Nat} {b : Nat} (h : ∀ k, dBlock v = some k → dLen v ≠ 0 → b ≤ k) (hS : ∀ k, k ∈ S → k < b) : dNot v S := fun k h1 h2 h3 => by
  have := h k h1 h2
  have := hS k h3
  omega
theorem _root_.Sedge.NS.upd_own {w : World} {v : Value} {l : List Nat} (h : NS w v l) {b : Nat} (hn : l ≠ [] → ∀ k, v.ownBlock = some k → k ≠ b) (cs : Array Value) : NS (upd w b cs) v l := by
  by_cases hl : l = []
  · subst hl
    obtain ⟨a, cap, hv, h0, _⟩ := h
    exact ⟨a, cap, hv, h0, fun i hi => by simp at hi⟩
  · refine h.upd_ne (fun a n c e => ?_) cs
    subst e
    exact hn hl _ rfl
theorem DV.upd_own {w : World} {v : Value} {q : Rat} {lo hi : Int} (h : DV w v q lo hi) {b : Nat} (hn : ∀ k, dBlock v = some k → dLen v ≠ 0 → k ≠ b) (cs : Array Value) : DV (upd w b cs) v q lo hi := by
  obtain ⟨ng, Lv, E, dl, rfl, hN, h3⟩ := h
  refine ⟨ng, Lv, E, dl, rfl, hN.upd_own (fun hl k hk => hn k hk ?_) cs, h3⟩
  obtain ⟨sa, sc, rfl⟩ := hN.shape
  show dl.length ≠ 0
  intro h0; exact hl (List.length_eq_zero_iff.1 h0)
theorem DV.upd_not {w : World} {v : Value} {q : Rat} {lo hi : Int} (h : DV w v q lo hi) {b : Nat} {S : List Nat} (hn : dNot v S) (hb : b ∈ S) (cs : Array Value) : DV (upd w b cs) v q lo hi :=
  h.upd_own (fun k h1 h2 e => by subst e; exact hn k h1 h2 hb) cs
end Go.Proofs.Ytcmggfpcbijcjaa
end
section
/-
  The facts that last, in a region whose acts come in no fixed order: values, the reference's numbers, boxes of them.
-/
set_option linter.unusedSimpArgs false
set_option linter.unusedVariables false
open Go Go.RowKit Sedge
namespace Go.Proofs.Ytcmggfpcbijcjaa
/-- What an operation leaves that lasts. -/
inductive Fd where
  | val (p : Value → Prop)
  | dv (q : Rat) (lo hi : Int)
  | box
  | put (d : Nat) (q : Rat) (lo hi : Int)
  | any
/-- The digits lie in no box of the region. -/
def safe (B : List Nat) (own : Nat → Nat) (w : World) (v : Value) : Prop := ∀ k, dBlock v = some k → dLen v ≠ 0 → k < w.heap.size ∧ own k ∉ B
def dCells (v : Value) : Array Value := match v with
  | .agg a => a
  | _ => #[]
def Fd.holds (B : List Nat) (W : World) (ρ : Nat → Value) (own : Nat → Nat) (w : World) (d : Nat) : Fd → Prop
  | .val p => p (ρ d)
  | .dv q lo hi => DV w (ρ d) q lo hi ∧ safe B own w (ρ d)
  | .box => ∃ p c e, ρ d = .pointer (some ⟨p, 0, none⟩) ∧ own p = d ∧ W.heap.size ≤ p ∧ w.heap[p]? = some (.cells c e (0, 0)) ∧ c.size = 3
  | .put d' q lo hi => ∃ p v e, ρ d' = .pointer (some ⟨p, 0, none⟩) ∧ own p = d' ∧ W.heap.size ≤ p ∧ w.heap[p]? = some (.cells (dCells v) e (0, 0)) ∧ DV w v q lo hi ∧ safe B own w v
  | .any => True
def slotsD (d : Nat) : Fd → List Nat
  | .put d' _ _ _ => [d']
  | .any => []
  | _ => [d]
theorem safe.grew {B : List Nat} {own own' : Nat → Nat} {w w' : World} {v : Value} (h : safe B own w v) (hg : Grew w w') (ho : ∀ b, b < w.heap.size → own' b = own b) : safe B own' w' v := fun k h1 h2 => by
  obtain ⟨a, b⟩ := h k h1 h2
  have := hg.below.size
  exact ⟨by omega, by rw [ho k a]; exact b⟩
theorem Fd.grew {B : List Nat} {W w w' : World} {ρ ρ' : Nat → Value} {own own' : Nat → Nat} {d : Nat} {f : Fd} (h : f.holds B W ρ own w d) (hg : Grew w w') (ho : ∀ b, b < w.heap.size → own' b = own b)
    (hr : ∀ s ∈ slotsD d f, ρ' s = ρ s) : f.holds B W ρ' own' w' d := by
  cases f with
  | val p => show p (ρ' d); rw [hr d (by simp [slotsD])]; exact h
  | dv q lo hi =>
    have e : ρ' d = ρ d := hr d (by simp [slotsD])
    show DV w' (ρ' d) q lo hi ∧ safe B own' w' (ρ' d)
    rw [e]
    exact ⟨h.1.grew hg, h.2.grew hg ho⟩
  | box =>
    obtain ⟨p, c, e, h1, h2, h3, h4, h5⟩ := h
    exact ⟨p, c, e, (hr d (by simp [slotsD])).trans h1, by rw [ho p (some_lt h4)]; exact h2, h3, by rw [hg.below.block p (some_lt h4)]; exact h4, h5⟩
  | put d' q lo hi =>
    obtain ⟨p, v, e, h1, h2, h3, h4, h5, h6⟩ := h
    exact ⟨p, v, e, (hr d' (by simp [slotsD])).trans h1, by rw [ho p (some_lt h4)]; exact h2, h3, by rw [hg.below.block p (some_lt h4)]; exact h4, h5.grew hg, h6.grew hg ho⟩
  | any => trivial
/-- No fact speaks of another's slot, but of one that it waits for; the slots are the region's; what is no box has no box's slot. -/
def isBox : Fd → Bool
  | .box => true
  | _ => false
def okD (B : List Nat) (l : List Oper) (sp : List Fd) (ds : List Nat) : Bool :=
  (List.range l.length).all fun i => match nth l i with
    | none => true
    | some oi => match oi.dst with
      | none => true
      | some d => ds.contains d && (match nth sp i with
          | some f => isBox f || !B.contains d
          | none => true) && (List.range l.length).all fun k => i == k || match nth l k, nth sp k with
        | some ok, some f => !(slotsD (ok.dst.getD 0) f).contains d || deps ok i
        | _, _ => true
def JD (B : List Nat) (W : World) (l : List Oper) (sp : List Fd) (base : Array Value) (ds : List Nat) (df : List Deferred) (L : Nat → Bool) (a : Act) (w : World) : Prop :=
  ∃ ρ own, a = ⟨mkA base ds ρ, df⟩ ∧ Grew W w ∧ (∀ b, b < W.heap.size → own b = 0) ∧ ∀ k o f, nth l k = some o → nth sp k = some f → L k = true → f.holds B W ρ own w (o.dst.getD 0)
section
variable {B : List Nat} {W w w' : World} {l : List Oper} {sp : List Fd} {base : Array Value} {ds : List Nat} {df : List Deferred} {L : Nat → Bool} {ρ : Nat → Value} {own own' : Nat → Nat}
theorem okD_spec (h : okD B l sp ds = true) {i k : Nat} {oi ok : Oper} {f : Fd} {d : Nat} (hi : nth l i = some oi) (hd : oi.dst = some d) :
    d ∈ ds ∧ (∀ g, nth sp i = some g → isBox g = false → d ∉ B) ∧ (i ≠ k → nth l k = some ok → nth sp k = some f → d ∈ slotsD (ok.dst.getD 0) f → deps ok i = true) := by
  unfold okD at h
  rw [List.all_eq_true] at h
  have h1 := h i (by simpa using nth_lt _ _ _ hi)
  rw [hi] at h1
  simp only [hd, Bool.and_eq_true, List.all_eq_true, List.contains_iff_mem] at h1
  refine ⟨h1.1.1, fun g hg hb => ?_, fun hik hk hf hs => ?_⟩
  · have h2 := h1.1.2
    rw [hg] at h2
    simp only [hb, Bool.false_or, Bool.not_eq_true', List.contains_eq_mem, decide_eq_false_iff_not] at h2
    exact h2
  · have h2 := h1.2 k (by simpa using nth_lt _ _ _ hk)
    rw [hk, hf] at h2
    simp only [Bool.or_eq_true, beq_iff_eq, Bool.not_eq_true'] at h2
    rcases h2 with h2 | h2 | h2
    · exact absurd h2 hik
    · rw [Bool.eq_false_iff] at h2; exact absurd (by simpa using hs) h2
    · exact h2
theorem JD.next (hc : okD B l sp ds = true) {i d : Nat} {o : Oper} {f : Fd} {v : Value} (hi : nth l i = some o) (hf : nth sp i = some f) (hd : o.dst = some d)
    (hno : ∀ k ok, nth l k = some ok → deps ok i = true → L k = false) (hW : Grew W w)
    (hF : ∀ k o f, nth l k = some o → nth sp k = some f → L k = true → f.holds B W ρ own w (o.dst.getD 0)) (h0 : ∀ b, b < W.heap.size → own b = 0) (hg : Grew w w') (ho : ∀ b, b < w.heap.size → own' b = own b)
    (hn : f.holds B W (setR ρ d v) own' w' d) {t : Array Value} (ht : t = (mkA base ds ρ).setIfInBounds d v) : JD B W l sp base ds df (fun k => k == i || L k) ⟨t, df⟩ w' := by
  subst ht
  have hm := (okD_spec (k := 0) (ok := o) (f := f) hc hi hd).1
  refine ⟨setR ρ d v, own', by rw [mkA_set _ _ _ _ hm], hW.trans hg, fun b hb => by rw [ho b (Nat.lt_of_lt_of_le hb hW.below.size)]; exact h0 b hb, fun k ok fk hk hfk hL => ?_⟩
  by_cases hki : k = i
  · subst hki
    rw [hi] at hk; rw [hf] at hfk
    cases hk; cases hfk
    rw [hd]; exact hn
  · have hLk : L k = true := by simpa [hki] using hL
    refine Fd.grew (hF k ok fk hk hfk hLk) hg ho fun s hs => setR_ne fun e => ?_
    subst e
    have := (okD_spec (ok := ok) (f := fk) hc hi hd).2.2 (fun e => hki e.symm) hk hfk hs
    rw [hno k ok hk this] at hLk; cases hLk
theorem JD.start {a : Act} (hW : Grew W w) : JD B W l sp a.tmps ds a.defers (fun _ => false) a w :=
  ⟨fun k => a.tmps.getD k undef, fun _ => 0, by rw [mkA_self], hW, fun _ _ => rfl, fun _ _ _ _ _ h => by cases h⟩
end
structure Sd (B : List Nat) (W : World) (l : List Oper) (sp : List Fd) (L : Nat → Bool) (ρ : Nat → Value) (own : Nat → Nat) (w : World) (i : Nat) (o : Oper) : Prop where
  at' : nth l i = some o
  grew : Grew W w
  no : ∀ k ok, nth l k = some ok → deps ok i = true → L k = false
  all : ∀ k o f, nth l k = some o → nth sp k = some f → L k = true → f.holds B W ρ own w (o.dst.getD 0)
  dep : ∀ e, deps o e = true → L e = true
  own0 : ∀ b, b < W.heap.size → own b = 0
def stepsD (P : Program) (Q : Exit → Act → World → Prop) (B : List Nat) (W : World) (l : List Oper) (sp : List Fd) (base : Array Value) (ds : List Nat) (df : List Deferred) : List Oper → Nat → Prop
  | [], _ => True
  | o :: r, i => (∀ L ρ own w, Sd B W l sp L ρ own w i o → ∀ K : Act → World → Prop, (∀ a' w', JD B W l sp base ds df (fun k => k == i || L k) a' w' → K a' w') → o.wp P ⟨mkA base ds ρ, df⟩ w K Q) ∧ stepsD P Q B W l sp base ds df r (i + 1)
theorem stepsD_of {P : Program} {Q : Exit → Act → World → Prop} {B : List Nat} {W : World} {l : List Oper} {sp : List Fd} {base : Array Value} {ds : List Nat} {df : List Deferred} : ∀ (r : List Oper) (i : Nat), (∀ k o, nth r k = some o → nth l (i + k) = some o) →
    stepsD P Q B W l sp base ds df r i → stepsJ P Q l (JD B W l sp base ds df) r i
  | [], _, _, _ => trivial
  | o :: r, i, hn, h => by
    refine ⟨fun L a w hi hdep hno hJ K hK => ?_, stepsD_of r (i + 1) (fun k ok hk => by have := hn (k + 1) ok hk; rwa [show i + 1 + k = i + (k + 1) from by omega]) h.2⟩
    obtain ⟨ρ, own, rfl, hG, h0, hF⟩ := hJ
    exact h.1 L ρ own w ⟨hn 0 o rfl, hG, hno, hF, hdep, h0⟩ K hK
theorem wp_region_JD {P : Program} {Q : Exit → Act → World → Prop} {id : Nat} {a : Act} {w : World} {l : List Oper} (B : List Nat) (W : World) (sp : List Fd) (ds : List Nat) (hm : P.follows .mixedOrders = true)
    (hok : okAt l 0 = true) (hW : Grew W w) (hs : stepsD P Q B W l sp a.tmps ds a.defers l 0)
    (he : ∀ ρ own w', Grew W w' → (∀ b, b < W.heap.size → own b = 0) → (∀ k o f, nth l k = some o → nth sp k = some f → f.holds B W ρ own w' (o.dst.getD 0)) → Q .normal ⟨mkA a.tmps ds ρ, a.defers⟩ w') : (Code.region id l.toArray true).wp P Q a w := by
  refine wp_region_J (JD B W l sp a.tmps ds a.defers) hm hok (JD.start hW.drew) (stepsD_of l 0 (fun k o h => by rw [Nat.zero_add]; exact h) hs) (fun L a' w' hL hJ => ?_)
  obtain ⟨ρ, own, rfl, hG, h0, hF⟩ := hJ
  exact he ρ own w' hG h0 fun k o f h1 h2 => hF k o f h1 h2 (hL k (nth_lt _ _ _ h1))
section
variable {B : List Nat} {W w w' : World} {l : List Oper} {sp : List Fd} {base : Array Value} {ds : List Nat} {df : List Deferred} {L : Nat → Bool} {ρ : Nat → Value} {own : Nat → Nat} {i : Nat} {o : Oper}
theorem Sd.fact (h : Sd B W l sp L ρ own w i o) (k : Nat) {ok : Oper} {f : Fd} (h1 : nth l k = some ok) (h2 : nth sp k = some f) (h3 : deps o k = true) : f.holds B W ρ own w (ok.dst.getD 0) := h.all k ok f h1 h2 (h.dep k h3)
/-- A value. -/
theorem Sd.val (h : Sd B W l sp L ρ own w i o) {d : Nat} {p : Value → Prop} {v : Value} (hf : nth sp i = some (.val p)) (hd : o.dst = some d) (hc : okD B l sp ds = true) {w' : World} (hg : Grew w w') (hp : p v) {t : Array Value} (ht : t = (mkA base ds ρ).setIfInBounds d v) :
    JD B W l sp base ds df (fun k => k == i || L k) ⟨t, df⟩ w' := JD.next hc h.at' hf hd h.no h.grew h.all h.own0 hg (fun _ _ => rfl) (by show p (setR ρ d v d); rw [setR_eq]; exact hp) ht
/-- A number of the reference: its digits are new, or another's. -/
theorem Sd.dv (h : Sd B W l sp L ρ own w i o) {d : Nat} {q : Rat} {lo hi : Int} {v : Value} (hf : nth sp i = some (.dv q lo hi)) (hd : o.dst = some d) (hc : okD B l sp ds = true) {w' : World} (hg : Grew w w')
    (hv : DV w' v q lo hi) (hb : ∀ k, dBlock v = some k → dLen v ≠ 0 → w.heap.size ≤ k ∨ k < w.heap.size ∧ own k ∉ B) {t : Array Value} (ht : t = (mkA base ds ρ).setIfInBounds d v) :
    JD B W l sp base ds df (fun k => k == i || L k) ⟨t, df⟩ w' := by
  have hdB := (okD_spec (k := 0) (ok := o) (f := .any) hc h.at' hd).2.1 _ hf rfl
  refine JD.next (own' := fun b => if b < w.heap.size then own b else d) hc h.at' hf hd h.no h.grew h.all h.own0 hg (fun b hb => by simp [hb]) ?_ ht
  show DV w' (setR ρ d v d) q lo hi ∧ safe B _ w' (setR ρ d v d)
  rw [setR_eq]
  refine ⟨hv, fun k h1 h2 => ?_⟩
  have hlt : k < w'.heap.size := by
    obtain ⟨ng, Lv, E, dl, rfl, hN, _⟩ := hv
    obtain ⟨sa, sc, rfl⟩ := hN.shape
    obtain ⟨blk, so, ha, hl, _⟩ := hN.at.2.2 (Nat.pos_of_ne_zero h2)
    subst ha
    simp [dBlock, Value.ownBlock] at h1
    omega
  refine ⟨hlt, ?_⟩
  rcases hb k h1 h2 with h3 | ⟨h3, h4⟩
  · have : ¬ k < w.heap.size := by omega
    simp only [this, if_false]; exact hdB
  · simp only [h3, if_true]; exact h4
/-- A new box. -/
theorem Sd.box (h : Sd B W l sp L ρ own w i o) {d : Nat} {c : Array Value} {e : TypeId} (hf : nth sp i = some .box) (hd : o.dst = some d) (hc : okD B l sp ds = true)
    (hn : c.size = 3) {t : Array Value} (ht : t = (mkA base ds ρ).setIfInBounds d (.pointer (some ⟨w.heap.size, 0, none⟩))) :
    JD B W l sp base ds df (fun k => k == i || L k) ⟨t, df⟩ (w.alloc (.cells c e)) := by
  refine JD.next (own' := fun b => if b < w.heap.size then own b else d) hc h.at' hf hd h.no h.grew h.all h.own0 ((Grew.refl w).alloc _) (fun b hb => by simp [hb]) ⟨w.heap.size, c, e, setR_eq, by simp, h.grew.below.size, ?_, hn⟩ ht
  show (w.heap.push _)[w.heap.size]? = _
  simp
/-- Each store has a box of its own, that is listed. -/
def putD (l : List Oper) (sp : List Fd) (i d' : Nat) : Bool :=
  (List.range l.length).all fun k => i == k || match nth sp k with
    | some (.put d2 _ _ _) => d2 != d'
    | _ => true
/-- The store of a number into its box. -/
theorem Sd.put {P : Program} {K : Act → World → Prop} {Q : Exit → Act → World → Prop} (h : Sd B W l sp L ρ own w i o) {d' c kb kr : Nat} {q : Rat} {lo hi : Int} {ob or' : Oper}
    (hf : nth sp i = some (.put d' q lo hi)) (hd : o.dst = none) (hp : putD l sp i d' = true) (hB : d' ∈ B)
    (hb1 : nth l kb = some ob) (hb2 : nth sp kb = some .box) (hb3 : deps o kb = true) (hb4 : ob.dst = some d')
    (hr1 : nth l kr = some or') (hr2 : nth sp kr = some (.dv q lo hi)) (hr3 : deps o kr = true) (hr4 : or'.dst = some c)
    {ty : TypeId} {x y : Operand} (ho : o.op = .store ty x y) (hx : (⟨mkA base ds ρ, df⟩ : Act).eval x = ρ d') (hy : (⟨mkA base ds ρ, df⟩ : Act).eval y = ρ c)
    (hi' : (P.info? ty).map (·.size) = some 3)
    (hK : ∀ a' w', JD B W l sp base ds df (fun k => k == i || L k) a' w' → K a' w') : o.wp P ⟨mkA base ds ρ, df⟩ w K Q := by
  have hb := h.fact kb hb1 hb2 hb3
  have hr := h.fact kr hr1 hr2 hr3
  rw [hb4] at hb; rw [hr4] at hr
  obtain ⟨p, c0, e, b1, b2, b3, b4, b5⟩ := hb
  obtain ⟨r1, r2⟩ := hr
  simp only [Option.getD_some] at b1 b2 r1 r2
  obtain ⟨vn, va, vl, vc, vE, hv⟩ := r1.shape
  have hpB : ∀ v, safe B own w v → ∀ k, dBlock v = some k → dLen v ≠ 0 → k ≠ p := fun v hs k h1 h2 e => by
    subst e
    have := (hs k h1 h2).2
    rw [b2] at this
    exact this hB
  refine wp_store_box ty x y ho (p := p) (cells := #[.bool vn, .slice va vl vc, .int .i64 vE]) (hx.trans b1) (by rw [hy, hv]) b4 (by rw [b5]; rfl) hi' (by kernel_rfl) (hK _ _ ?_)
  rw [hd]
  refine ⟨ρ, own, rfl, h.grew.upd b3 _, h.own0, fun k ok fk hk hfk hL => ?_⟩
  have hsz : (upd w p #[.bool vn, .slice va vl vc, .int .i64 vE]).heap.size = w.heap.size := size_upd
  have hsafe : ∀ v, safe B own w v → safe B own (upd w p #[.bool vn, .slice va vl vc, .int .i64 vE]) v := fun v hs k h1 h2 => by rw [hsz]; exact hs k h1 h2
  by_cases hki : k = i
  · subst hki
    rw [h.at'] at hk; rw [hf] at hfk
    cases hk; cases hfk
    refine ⟨p, ρ c, e, b1, b2, b3, ?_, r1.upd_own (hpB _ r2) _, hsafe _ r2⟩
    rw [hv]; exact block_upd b4
  · have hLk : L k = true := by simpa [hki] using hL
    have hh := h.all k ok fk hk hfk hLk
    cases fk with
    | val pr => exact hh
    | any => trivial
    | dv q2 lo2 hi2 => exact ⟨hh.1.upd_own (hpB _ hh.2) _, hsafe _ hh.2⟩
    | box =>
      obtain ⟨r, c1, e1, a1, a2, a3, a4, a5⟩ := hh
      by_cases hr : r = p
      · subst hr
        exact ⟨r, _, e1, a1, a2, a3, block_upd a4, rfl⟩
      · exact ⟨r, c1, e1, a1, a2, a3, by rw [block_upd_ne hr]; exact a4, a5⟩
    | put d2 q2 lo2 hi2 =>
      obtain ⟨r, v2, e1, a1, a2, a3, a4, a5, a6⟩ := hh
      have hne : d2 ≠ d' := by
        unfold putD at hp
        rw [List.all_eq_true] at hp
        have := hp k (by simpa using nth_lt _ _ _ hk)
        rw [hfk] at this
        simp only [Bool.or_eq_true, beq_iff_eq, bne_iff_ne] at this
        rcases this with h' | h'
        · exact absurd h'.symm hki
        · exact h'
      have hr : r ≠ p := fun e => by subst e; rw [a2] at b2; exact hne b2
      exact ⟨r, v2, e1, a1, a2, a3, by rw [block_upd_ne hr]; exact a4, a5.upd_own (hpB _ a6) _, hsafe _ a6⟩
end
section
variable {P : Program} {Q : Exit → Act → World → Prop} {B : List Nat} {W : World} {l : List Oper} {sp : List Fd} {base : Array Value} {ds : List Nat} {df : List Deferred}
theorem stepsD_nil {i : Nat} : stepsD P Q B W l sp base ds df [] i := trivial
theorem stepsD_cons {o : Oper} {r : List Oper} {i j : Nat} (hj : i + 1 = j)
    (h : ∀ L ρ own w, Sd B W l sp L ρ own w i o → ∀ K : Act → World → Prop, (∀ a' w', JD B W l sp base ds df (fun k => k == i || L k) a' w' → K a' w') → o.wp P ⟨mkA base ds ρ, df⟩ w K Q)
    (hr : stepsD P Q B W l sp base ds df r j) : stepsD P Q B W l sp base ds df (o :: r) i := by subst hj; exact ⟨h, hr⟩
attribute [irreducible] stepsD JD
end
/-- The digits are new. -/
theorem safeNew {B : List Nat} {own : Nat → Nat} {W w : World} {v : Value} (h : safe B own w v) (h0 : ∀ b, b < W.heap.size → own b = 0) (hB : 0 ∈ B) : ∀ k, dBlock v = some k → dLen v ≠ 0 → W.heap.size ≤ k := fun k h1 h2 => by
  rcases Nat.lt_or_ge k W.heap.size with h3 | h3
  · have := (h k h1 h2).2
    rw [h0 k h3] at this
    exact absurd hB this
  · exact h3
/-- Opened behind the region: a number. -/
theorem dvOut {B : List Nat} {W : World} {ρ : Nat → Value} {own : Nat → Nat} {w : World} {d : Nat} {q : Rat} {lo hi : Int} (h : Fd.holds B W ρ own w d (.dv q lo hi)) : ∃ ng a n c E, ρ d = .agg #[.bool ng, .slice a n c, .int .i64 E] ∧ DV w (.agg #[.bool ng, .slice a n c, .int .i64 E]) q lo hi ∧ safe B own w (.agg #[.bool ng, .slice a n c, .int .i64 E]) := by
  obtain ⟨h1, h2⟩ := h
  obtain ⟨ng, a, n, c, E, e⟩ := h1.shape
  rw [e] at h1 h2
  exact ⟨ng, a, n, c, E, e, h1, h2⟩
/-- Opened behind the region: a box. -/
theorem putOut {B : List Nat} {W : World} {ρ : Nat → Value} {own : Nat → Nat} {w : World} {d d' : Nat} {q : Rat} {lo hi : Int} (h : Fd.holds B W ρ own w d (.put d' q lo hi)) : ∃ p ng a n c E, ρ d' = .pointer (some ⟨p, 0, none⟩) ∧ W.heap.size ≤ p ∧ own p = d' ∧
    Box w p #[.bool ng, .slice a n c, .int .i64 E] ∧ DV w (.agg #[.bool ng, .slice a n c, .int .i64 E]) q lo hi ∧ safe B own w (.agg #[.bool ng, .slice a n c, .int .i64 E]) := by
  obtain ⟨p, v, e, h1, h2, h3, h4, h5, h6⟩ := h
  obtain ⟨ng, a, n, c, E, rfl⟩ := h5.shape
  exact ⟨p, ng, a, n, c, E, h1, h3, h2, ⟨e, h4⟩, h5, h6⟩
end Go.Proofs.Ytcmggfpcbijcjaa
end
