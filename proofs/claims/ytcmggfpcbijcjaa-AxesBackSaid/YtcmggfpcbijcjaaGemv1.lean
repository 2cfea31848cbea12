/-
  Contracts: gemv.row, at, begin, Mul's closure, columns.
-/
import Derived.Test.YtcmggfpcbijcjaaGer1
import Derived.Test.YtcmggfpcbijcjaaTrsvLaw2
import Derived.Test.YtcmggfpcbijcjaaTrsv2
import Derived.Test.YtcmggfpcbijcjaaClear
set_option linter.unusedSimpArgs false
set_option linter.unusedVariables false
open Go Go.RowKit Sedge
namespace Go.Proofs.Ytcmggfpcbijcjaa
set_option maxRecDepth 100000 in
set_option maxHeartbeats 1000000 in
/-- gemv.row. -/
theorem vrow_any (x : VecM) (a : Option Addr) (l c : Nat) (w : World) :
   Calls Try.prog 196 #[.agg #[.slice a l c, .int .i64 x.off, .int .i64 x.n, .int .i64 x.inc]] w (fun e w' => e = .returned (.agg #[.slice a l c, .int .i64 x.off, .int .i64 1, .int .i64 x.n, .int .i64 x.inc]) ∧ ∃ o n, w' = ext w o n) := by
  go_enter Try.func196, Try.ntmps196
  refine seq_stop ?_
  go_wp2
  refine stop_go (fun W hW => ?_)
  have s1 : w.heap.size < W.heap.size := by rw [hW]; simp only [World.size_alloc]; omega
  have b1 : ∀ i, W.cell? ⟨w.heap.size, i, none⟩ = (#[.slice a l c, .int .i64 x.off, .int .i64 x.n, .int .i64 x.inc] : Array Value)[i]? := by intro i; rw [hW]; go_simp
  have f1 : ∀ i, W.frozen? ⟨w.heap.size, i, none⟩ = false := by intro i; rw [hW]; go_simp
  have s2 : w.heap.size + 1 < W.heap.size := by rw [hW]; simp only [World.size_alloc]; omega
  have b2 : ∀ i, W.cell? ⟨w.heap.size + 1, i, none⟩ = (#[.slice none 0 0, .int .i64 0, .int .i64 0, .int .i64 0, .int .i64 0] : Array Value)[i]? := by intro i; rw [hW]; go_simp
  have f2 : ∀ i, W.frozen? ⟨w.heap.size + 1, i, none⟩ = false := by intro i; rw [hW]; go_simp
  have g0 : Grew w W := by rw [hW]; exact ((Grew.refl _).alloc _).alloc _
  clear hW
  go_wp2
  refine bodyPost_ret (v := .agg #[.slice a l c, .int .i64 x.off, .int .i64 1, .int .i64 x.n, .int .i64 x.inc]) (by simp [results, Try.results196, go_sem, *]) rfl ?_
  exact ⟨rfl, by (show Grew _ _; repeat (first | (with_reducible exact Grew.refl _) | (with_reducible assumption) | (with_reducible refine Grew.ext ?_ _ _) | (with_reducible refine Grew.alloc ?_ _) | ((with_reducible refine Grew.setCell ?_ ?_ _); rotate_left; (focus (dsimp only; first | omega | (simp only [size_ext, World.size_alloc, Array.size_append]; omega)))) | (with_reducible refine Grew.drewN ?_ _) | (with_reducible refine Grew.drew ?_)))⟩
set_option maxRecDepth 100000 in
set_option maxHeartbeats 1000000 in
/-- gemv.at. -/
theorem gat_any (x : VecM) (g cap i : Nat) (w : World) (hx : x.right = true) (hi : (i : Int) < x.n) (hl : x.ws.length ≤ 1000000) :
   Calls Try.prog 160 #[.agg #[.slice (some ⟨g, 0, none⟩) x.ws.length cap, .int .i64 x.off, .int .i64 x.n, .int .i64 x.inc], .int .i64 i] w
     (fun e w' => e = .returned (.pointer (some ⟨g, x.place i, none⟩)) ∧ ∃ o n, w' = ext w o n) := by
  have hp := VecM.right_place hx hi
  have hn := VecM.right_n hx
  have r1 : IntKind.i64.wrap (i * x.inc) = i * x.inc := IntWalk.i64_in _ (by omega)
  have r2 : IntKind.i64.wrap (x.off + i * x.inc) = x.off + i * x.inc := IntWalk.i64_in _ (by omega)
  unfold VecM.place
  clear hx
  go_enter Try.func160, Try.ntmps160
  refine seq_stop ?_
  go_wp2
  refine stop_go (fun W hW => ?_)
  have s1 : w.heap.size < W.heap.size := by rw [hW]; simp only [World.size_alloc]; omega
  have b1 : ∀ i, W.cell? ⟨w.heap.size, i, none⟩ = (#[.slice (some ⟨g, 0, none⟩) x.ws.length cap, .int .i64 x.off, .int .i64 x.n, .int .i64 x.inc] : Array Value)[i]? := by intro i; rw [hW]; go_simp
  have g0 : Grew w W := by rw [hW]; exact (Grew.refl _).alloc _
  clear hW
  go_wp2
  go_ret
  exact ⟨rfl, by (show Grew _ _; repeat (first | (with_reducible exact Grew.refl _) | (with_reducible assumption) | (with_reducible refine Grew.ext ?_ _ _) | (with_reducible refine Grew.alloc ?_ _) | ((with_reducible refine Grew.setCell ?_ ?_ _); rotate_left; (focus (dsimp only; first | omega | (simp only [size_ext, World.size_alloc, Array.size_append]; omega)))) | (with_reducible refine Grew.drewN ?_ _) | (with_reducible refine Grew.drew ?_)))⟩
/-- A good matrix' column is right. -/
theorem colV_right {m : MatM} (hm : m.good = true) {j : Nat} (hj : (j : Int) < m.cols) (h0 : 0 < m.rows) : (colV m j).right = true := by
  have hn := MatM.good_n hm
  have hp := MatM.good_place hm (i := (m.rows - 1).toNat) (j := j) (by omega) hj
  have hp0 := MatM.good_place hm (i := 0) (j := j) (by omega) hj
  unfold VecM.right colV fitsB
  simp only [h0, if_true, Bool.and_eq_true, Bool.or_eq_true, decide_eq_true_eq]
  rw [Int.toNat_of_nonneg (by omega)] at hp
  simp only [Int.natCast_zero, Int.add_zero] at hp0
  refine ⟨by omega, .inr ⟨by omega, by omega⟩⟩
/-- A number that is begun. -/
def beginF (β z : Nat) : Nat := if feq0 β = true then 0 else fmul β z
def stepV (F : Nat → Nat) (s : Nat → Nat) (i r : Nat) : Nat := if r < i then F (s r) else s r
theorem stepV_set {x : VecM} {L : List Nat} {s : Nat → Nat} {F : Nat → Nat} {i v : Nat} (h : VH x L (stepV F s i)) (hx : x.right = true) (hi : (i : Int) < x.n) (hv : v = F (s i)) : VH x (L.set (x.place i) v) (stepV F s (i + 1)) := by
  refine (h.set hx hi).congr fun r hr => ?_
  unfold stepV
  by_cases e : r = i
  · subst e; simp [hv]
  · rw [if_neg e]
    by_cases h2 : r < i
    · rw [if_pos h2, if_pos (by omega)]
    · rw [if_neg h2, if_neg (by omega)]
set_option maxRecDepth 100000 in
set_option maxHeartbeats 2000000 in
/-- gemv.begin. -/
theorem begin_any (b β : Nat) (y : VecM) (g cap : Nat) (s : Nat → Nat) (L0 : List Nat) (w : World) (hb : IsF b β) (hF : FW w g L0) (hV : VH y L0 s) (hy : y.right = true) (hl : y.ws.length ≤ 1000000) :
   Calls Try.prog 145 #[.float .f64 b, .agg #[.slice (some ⟨g, 0, none⟩) y.ws.length cap, .int .i64 y.off, .int .i64 y.n, .int .i64 y.inc]] w
     (fun e w' => e = .returned (.tuple #[]) ∧ But w [g] w' ∧ ∃ L, FW w' g L ∧ VH y L (fun r => beginF β (s r))) := by
  have hn := VecM.right_n hy
  have hnl := VecM.right_nle hy hl
  have hltg := hF.lt
  have Hy := hid hy
  have hat : ∀ i : Nat, (i : Int) < y.n → ∀ w', Calls Try.prog 160 #[.agg #[.slice (some ⟨g, 0, none⟩) y.ws.length cap, .int .i64 y.off, .int .i64 y.n, .int .i64 y.inc], .int .i64 i] w' (fun e w2 => e = .returned (.pointer (some ⟨g, y.place i, none⟩)) ∧ ∃ o n, w2 = ext w' o n) := fun i hi w' => gat_any y g cap i w' hy hi hl
  clear hy
  cases hz : feq0 β
  · have hz' : (FloatKind.f64.format.order b 0 == some Ordering.eq) = false := by rw [← hz]; unfold feq0; rw [← hb.order isF_zero]; rfl
    have hbf : ∀ z, fmul β z = beginF β z := fun z => by unfold beginF; rw [hz]; rfl
    go_enter Try.func145, Try.ntmps145
    refine seq_stop ?_
    go_wp2
    refine stop_go (fun W hW => ?_)
    have s1 : w.heap.size < W.heap.size := by rw [hW]; simp only [World.size_alloc]; omega
    have b1 : ∀ i, W.cell? ⟨w.heap.size, i, none⟩ = (#[.slice (some ⟨g, 0, none⟩) y.ws.length cap, .int .i64 y.off, .int .i64 y.n, .int .i64 y.inc] : Array Value)[i]? := by intro i; rw [hW]; go_simp
    have g0 : Grew w W := by rw [hW]; exact (Grew.refl _).alloc _
    clear hW
    have zW := g0.below.size
    have bw : ∀ w', But W [g] w' → But w [g] w' := fun w' h => ((But.refl w [g]).grew g0).trans h (fun _ hb => .inl hb)
    have cU : ∀ w', But W [g] w' → ∀ i, w'.cell? ⟨w.heap.size, i, none⟩ = (#[.slice (some ⟨g, 0, none⟩) y.ws.length cap, .int .i64 y.off, .int .i64 y.n, .int .i64 y.inc] : Array Value)[i]? := fun w' h i => (h.cell s1 (by simp; omega)).trans (b1 i)
    have hFW := hF.grew g0
    go_wp2
    go_loopw [8] (fun c wr => ∃ (i : Nat) (L : List Nat), (i : Int) ≤ y.n ∧ c = .int .i64 i ∧ But W [g] wr ∧ FW wr g L ∧ VH y L (stepV (beginF β) s i)) (fun c _ => (y.n - intOf c).toNat)
    case atStart => exact ⟨0, L0, hn.1, rfl, But.refl _ _, hFW, hV.congr fun r _ => by simp [stepV]⟩
    case round =>
      obtain ⟨i, L, hi, rfl, hB, hL, hS⟩ := hrel
      have tT := cU _ hB
      have zB := hB.size
      have kT : w.heap.size < wr.heap.size := by omega
      by_cases hlt : (i : Int) < y.n
      · have hlt' := hid hlt
        have hati := hat i hlt
        obtain ⟨r0, hr0, hf0⟩ := hL.get (i := y.place i) (by rw [hS.len]; exact VecM.place_lt Hy.out hlt)
        have gl := hL.lt
        have fz : ∀ i, wr.frozen? ⟨g, i, none⟩ = false := hL.notFrozen
        go_wp2_with (first | (go_at_call 160; ((with_reducible refine (hati _).mono ?_); rintro e w1 ⟨rfl, o1, n1, rfl⟩)) | ((with_reducible refine upon_id ?_); refine upon_fop rfl (by assumption) (by assumption) ?_; intro rr nn hr))
        go_roundw
        case rel => exact ⟨i + 1, _, by have := hlt'.out; omega, by go_num, (hB.setc hL (by simp)).grew ⟨_, _, rfl⟩, (hL.setc (k := y.place i) hr).ext _ _, stepV_set hS Hy.out hlt'.out (by rw [← hbf, hS.get i hlt'.out]; unfold stepV; rw [if_neg (by omega)]; rfl)⟩
        case measure => (have := hlt'.out; simp [intOf]; omega)
      · go_wp2
        go_end0
        exact ⟨rfl, bw _ hB, L, hL, hS.congr fun r hr => by unfold stepV; rw [if_pos (by omega)]⟩
  · have hz' : (FloatKind.f64.format.order b 0 == some Ordering.eq) = true := by rw [← hz]; unfold feq0; rw [← hb.order isF_zero]; rfl
    have hbf : ∀ z, 0 = beginF β z := fun z => by unfold beginF; rw [hz]; rfl
    go_enter Try.func145, Try.ntmps145
    refine seq_stop ?_
    go_wp2
    refine stop_go (fun W hW => ?_)
    have s1 : w.heap.size < W.heap.size := by rw [hW]; simp only [World.size_alloc]; omega
    have b1 : ∀ i, W.cell? ⟨w.heap.size, i, none⟩ = (#[.slice (some ⟨g, 0, none⟩) y.ws.length cap, .int .i64 y.off, .int .i64 y.n, .int .i64 y.inc] : Array Value)[i]? := by intro i; rw [hW]; go_simp
    have g0 : Grew w W := by rw [hW]; exact (Grew.refl _).alloc _
    clear hW
    have zW := g0.below.size
    have bw : ∀ w', But W [g] w' → But w [g] w' := fun w' h => ((But.refl w [g]).grew g0).trans h (fun _ hb => .inl hb)
    have cU : ∀ w', But W [g] w' → ∀ i, w'.cell? ⟨w.heap.size, i, none⟩ = (#[.slice (some ⟨g, 0, none⟩) y.ws.length cap, .int .i64 y.off, .int .i64 y.n, .int .i64 y.inc] : Array Value)[i]? := fun w' h i => (h.cell s1 (by simp; omega)).trans (b1 i)
    have hFW := hF.grew g0
    go_wp2
    go_loopw [8] (fun c wr => ∃ (i : Nat) (L : List Nat), (i : Int) ≤ y.n ∧ c = .int .i64 i ∧ But W [g] wr ∧ FW wr g L ∧ VH y L (stepV (beginF β) s i)) (fun c _ => (y.n - intOf c).toNat)
    case atStart => exact ⟨0, L0, hn.1, rfl, But.refl _ _, hFW, hV.congr fun r _ => by simp [stepV]⟩
    case round =>
      obtain ⟨i, L, hi, rfl, hB, hL, hS⟩ := hrel
      have tT := cU _ hB
      have zB := hB.size
      have kT : w.heap.size < wr.heap.size := by omega
      by_cases hlt : (i : Int) < y.n
      · have hlt' := hid hlt
        have hati := hat i hlt
        obtain ⟨r0, hr0, hf0⟩ := hL.get (i := y.place i) (by rw [hS.len]; exact VecM.place_lt Hy.out hlt)
        have gl := hL.lt
        have fz : ∀ i, wr.frozen? ⟨g, i, none⟩ = false := hL.notFrozen
        go_wp2_with (first | (go_at_call 160; ((with_reducible refine (hati _).mono ?_); rintro e w1 ⟨rfl, o1, n1, rfl⟩)))
        go_roundw
        case rel => exact ⟨i + 1, _, by have := hlt'.out; omega, by go_num, (hB.setc hL (by simp)).grew ⟨_, _, rfl⟩, (hL.setc (k := y.place i) isF_zero).ext _ _, stepV_set hS Hy.out hlt'.out (hbf _)⟩
        case measure => (have := hlt'.out; simp [intOf]; omega)
      · go_wp2
        go_end0
        exact ⟨rfl, bw _ hB, L, hL, hS.congr fun r hr => by unfold stepV; rw [if_pos (by omega)]⟩
/-- gemv.Mul's closure. -/
theorem mcl_any (v x a V X α Ta : Nat) (w : World) (hv : IsF v V) (hx : IsF x X) (ha : IsF a α) (hca : ∀ i, w.cell? ⟨Ta, i, none⟩ = (#[.float .f64 a] : Array Value)[i]?) :
   Calls Try.prog 147 #[.float .f64 v, .float .f64 x, .pointer (some ⟨Ta, 0, none⟩)] w (fun e w' => ∃ r, e = .returned (.float .f64 r) ∧ IsF r (fmul (fmul α X) V) ∧ ∃ o n, w' = ext w o n) := by
  go_enter Try.func147, Try.ntmps147
  go_wp2_with (first | ((with_reducible refine upon_id ?_); refine upon_fop rfl (by assumption) (by assumption) ?_; intro rr nn hr))
  go_ret
  exact ⟨_, rfl, by assumption, by (show Grew _ _; repeat (first | (with_reducible exact Grew.refl _) | (with_reducible assumption) | (with_reducible refine Grew.ext ?_ _ _) | (with_reducible refine Grew.alloc ?_ _) | ((with_reducible refine Grew.setCell ?_ ?_ _); rotate_left; (focus (dsimp only; first | omega | (simp only [size_ext, World.size_alloc, Array.size_append]; omega)))) | (with_reducible refine Grew.drewN ?_ _) | (with_reducible refine Grew.drew ?_)))⟩
end Go.Proofs.Ytcmggfpcbijcjaa
