/-
  Contracts: view.Col, ger.row, ger.Ger's closure, ger.each.
-/
import Derived.Test.YtcmggfpcbijcjaaTrsv1
import Derived.Test.YtcmggfpcbijcjaaSums
import Derived.Test.YtcmggfpcbijcjaaSeg
import Derived.Test.YtcmggfpcbijcjaaGrid
set_option linter.unusedSimpArgs false
set_option linter.unusedVariables false
open Go Go.RowKit Sedge
namespace Go.Proofs.Ytcmggfpcbijcjaa
def colV (m : MatM) (j : Nat) : VecM := ⟨m.ws, if 0 < m.rows then m.off + j * m.ld else m.off, m.rows, 1⟩
set_option maxRecDepth 100000 in
set_option maxHeartbeats 1000000 in
/-- view.Col. -/
theorem col_any (x : MatM) (D : Value) (j : Nat) (w : World) (hD : FS w D x.ws) (hx : x.good = true) (hwf : x.wf) (hj : (j : Int) < x.cols) :
   Calls Try.prog 149 #[.agg #[D, .int .i64 x.off, .int .i64 x.rows, .int .i64 x.cols, .int .i64 x.ld], .int .i64 j] w
     (fun e w' => e = .returned (.agg #[D, .int .i64 (colV x j).off, .int .i64 x.rows, .int .i64 1]) ∧ ∃ o n, w' = ext w o n) := by
  have hn := MatM.good_n hx
  obtain ⟨aD, capD, rfl⟩ := hD.shape
  have k1 : (!x.good) = false := by simp [hx]
  have hlen := hD.len
  have Hw := hid hwf
  have k3 : decide ((j : Int) < 0) = false := by simp
  have k4 : decide (x.cols ≤ (j : Int)) = false := by simp; omega
  by_cases hc : 0 < x.rows
  · have hp := MatM.good_place hx (i := 0) (j := j) (by simpa using hc) hj
    simp only [Int.natCast_zero, Int.add_zero] at hp
    have e : (colV x j).off = x.off + j * x.ld := by simp [colV, hc]
    have r1 : IntKind.i64.wrap ((j : Int) * x.ld) = j * x.ld := IntWalk.i64_in _ (by omega)
    have r2 : IntKind.i64.wrap (x.off + j * x.ld) = x.off + j * x.ld := IntWalk.i64_in _ (by omega)
    have Hx := hid hx
    have d5 : decide (0 < x.rows) = true := by simpa using hc
    rw [e]
    clear hx hwf e
    go_enter Try.func149, Try.ntmps149
    refine seq_stop ?_
    go_wp2
    refine stop_go (fun W hW => ?_)
    have s1 : w.heap.size < W.heap.size := by rw [hW]; simp only [World.size_alloc]; omega
    have b1 : ∀ i, W.cell? ⟨w.heap.size, i, none⟩ = (#[.slice aD x.ws.length capD, .int .i64 x.off, .int .i64 x.rows, .int .i64 x.cols, .int .i64 x.ld] : Array Value)[i]? := by intro i; rw [hW]; go_simp
    have f1 : ∀ i, W.frozen? ⟨w.heap.size, i, none⟩ = false := by intro i; rw [hW]; go_simp
    have s2 : w.heap.size + 1 < W.heap.size := by rw [hW]; simp only [World.size_alloc]; omega
    have b2 : ∀ i, W.cell? ⟨w.heap.size + 1, i, none⟩ = (#[.slice none 0 0, .int .i64 0, .int .i64 0, .int .i64 0] : Array Value)[i]? := by intro i; rw [hW]; go_simp
    have f2 : ∀ i, W.frozen? ⟨w.heap.size + 1, i, none⟩ = false := by intro i; rw [hW]; go_simp
    have g0 : Grew w W := by rw [hW]; exact ((Grew.refl _).alloc _).alloc _
    clear hW
    have hDW : FS W (.slice aD x.ws.length capD) x.ws := hD.grew g0
    go_wp2_with (first | (go_at_call 130; ((with_reducible refine (good_any x _ _ ?_ Hw.out).mono ?_); (focus (first | assumption | (refine FS.ext ?_ _ _; assumption) | (refine IS.ext ?_ _ _; assumption) | (refine hDu _ ?_; assumption) | (refine hOu _ ?_; assumption) | (refine FW.fs ?_ (by omega) _; assumption) | (refine WS.fs ?_; assumption) | omega)); rintro e w1 ⟨rfl, o1, n1, rfl⟩)))
    refine bodyPost_ret (v := .agg #[.slice aD x.ws.length capD, .int .i64 (x.off + j * x.ld), .int .i64 x.rows, .int .i64 1]) (by simp [results, Try.results149, go_sem, *]) rfl ?_
    exact ⟨rfl, by (show Grew _ _; repeat (first | (with_reducible exact Grew.refl _) | (with_reducible assumption) | (with_reducible refine Grew.ext ?_ _ _) | (with_reducible refine Grew.alloc ?_ _) | ((with_reducible refine Grew.setCell ?_ ?_ _); rotate_left; (focus (dsimp only; first | omega | (simp only [size_ext, World.size_alloc, Array.size_append]; omega)))) | (with_reducible refine Grew.drewN ?_ _) | (with_reducible refine Grew.drew ?_)))⟩
  · have e : (colV x j).off = x.off := by simp [colV, hc]
    have Hx := hid hx
    have d5 : decide (0 < x.rows) = false := by simpa using hc
    rw [e]
    clear hx hwf e
    go_enter Try.func149, Try.ntmps149
    refine seq_stop ?_
    go_wp2
    refine stop_go (fun W hW => ?_)
    have s1 : w.heap.size < W.heap.size := by rw [hW]; simp only [World.size_alloc]; omega
    have b1 : ∀ i, W.cell? ⟨w.heap.size, i, none⟩ = (#[.slice aD x.ws.length capD, .int .i64 x.off, .int .i64 x.rows, .int .i64 x.cols, .int .i64 x.ld] : Array Value)[i]? := by intro i; rw [hW]; go_simp
    have f1 : ∀ i, W.frozen? ⟨w.heap.size, i, none⟩ = false := by intro i; rw [hW]; go_simp
    have s2 : w.heap.size + 1 < W.heap.size := by rw [hW]; simp only [World.size_alloc]; omega
    have b2 : ∀ i, W.cell? ⟨w.heap.size + 1, i, none⟩ = (#[.slice none 0 0, .int .i64 0, .int .i64 0, .int .i64 0] : Array Value)[i]? := by intro i; rw [hW]; go_simp
    have f2 : ∀ i, W.frozen? ⟨w.heap.size + 1, i, none⟩ = false := by intro i; rw [hW]; go_simp
    have g0 : Grew w W := by rw [hW]; exact ((Grew.refl _).alloc _).alloc _
    clear hW
    have hDW : FS W (.slice aD x.ws.length capD) x.ws := hD.grew g0
    go_wp2_with (first | (go_at_call 130; ((with_reducible refine (good_any x _ _ ?_ Hw.out).mono ?_); (focus (first | assumption | (refine FS.ext ?_ _ _; assumption) | (refine IS.ext ?_ _ _; assumption) | (refine hDu _ ?_; assumption) | (refine hOu _ ?_; assumption) | (refine FW.fs ?_ (by omega) _; assumption) | (refine WS.fs ?_; assumption) | omega)); rintro e w1 ⟨rfl, o1, n1, rfl⟩)))
    refine bodyPost_ret (v := .agg #[.slice aD x.ws.length capD, .int .i64 x.off, .int .i64 x.rows, .int .i64 1]) (by simp [results, Try.results149, go_sem, *]) rfl ?_
    exact ⟨rfl, by (show Grew _ _; repeat (first | (with_reducible exact Grew.refl _) | (with_reducible assumption) | (with_reducible refine Grew.ext ?_ _ _) | (with_reducible refine Grew.alloc ?_ _) | ((with_reducible refine Grew.setCell ?_ ?_ _); rotate_left; (focus (dsimp only; first | omega | (simp only [size_ext, World.size_alloc, Array.size_append]; omega)))) | (with_reducible refine Grew.drewN ?_ _) | (with_reducible refine Grew.drew ?_)))⟩
set_option maxRecDepth 100000 in
set_option maxHeartbeats 1000000 in
/-- ger.row. -/
theorem grow_any (x : VecM) (a : Option Addr) (l c : Nat) (w : World) :
   Calls Try.prog 137 #[.agg #[.slice a l c, .int .i64 x.off, .int .i64 x.n, .int .i64 x.inc]] w (fun e w' => e = .returned (.agg #[.slice a l c, .int .i64 x.off, .int .i64 1, .int .i64 x.n, .int .i64 x.inc]) ∧ ∃ o n, w' = ext w o n) := by
  go_enter Try.func137, Try.ntmps137
  refine seq_stop ?_
  go_wp2
  refine stop_go (fun W hW => ?_)
  have s1 : w.heap.size < W.heap.size := by rw [hW]; simp only [World.size_alloc]; omega
  have b1 : ∀ i, W.cell? ⟨w.heap.size, i, none⟩ = (#[.slice a l c, .int .i64 x.off, .int .i64 x.n, .int .i64 x.inc] : Array Value)[i]? := by intro i; rw [hW]; go_simp
  have f1 : ∀ i, W.frozen? ⟨w.heap.size, i, none⟩ = false := by intro i; rw [hW]; go_simp
  have s2 : w.heap.size + 1 < W.heap.size := by rw [hW]; simp only [World.size_alloc]; omega
  have b2 : ∀ i, W.cell? ⟨w.heap.size + 1, i, none⟩ = (#[.slice none 0 0, .int .i64 0, .int .i64 0, .int .i64 0, .int .i64 0] : Array Value)[i]? := by intro i; rw [hW]; go_simp
  have f2 : ∀ i, W.frozen? ⟨w.heap.size + 1, i, none⟩ = false := by intro i; rw [hW]; go_simp
  have g0 : Grew w W := by rw [hW]; exact ((Grew.refl _).alloc _).alloc _
  clear hW
  go_wp2
  refine bodyPost_ret (v := .agg #[.slice a l c, .int .i64 x.off, .int .i64 1, .int .i64 x.n, .int .i64 x.inc]) (by simp [results, Try.results137, go_sem, *]) rfl ?_
  exact ⟨rfl, by (show Grew _ _; repeat (first | (with_reducible exact Grew.refl _) | (with_reducible assumption) | (with_reducible refine Grew.ext ?_ _ _) | (with_reducible refine Grew.alloc ?_ _) | ((with_reducible refine Grew.setCell ?_ ?_ _); rotate_left; (focus (dsimp only; first | omega | (simp only [size_ext, World.size_alloc, Array.size_append]; omega)))) | (with_reducible refine Grew.drewN ?_ _) | (with_reducible refine Grew.drew ?_)))⟩
theorem hmf (fn : Fn) (first cap : Array Value) (w : World) : (Instr.makeFunc fn first cap).run Try.prog w = .ok (.func fn first cap) w := rfl
/-- What a closure of ger.each does at a place. -/
def DoesAt (w : World) (m : MatM) (g : Nat) (q1 q2 q3 : Value) (F : Nat → Nat → Nat → Nat) : Prop :=
  ∀ w' L s, But w [g] w' → FW w' g L → Hold m.place m.rows.toNat m.cols.toNat m.ws L s → ∀ i j : Nat, (i : Int) < m.rows → (j : Int) < m.cols →
    Calls Try.prog 139 #[.int .i64 i, .int .i64 j, .pointer (some ⟨g, (m.off + j * m.ld + i).toNat, none⟩), q1, q2, q3] w' (fun e w2 => e = .returned (.tuple #[]) ∧ Wrote w' w2 g (L.set (m.place i j) (F i j (s i j))))
def stepF (F : Nat → Nat → Nat → Nat) (s : Nat → Nat → Nat) (j i : Nat) (r c : Nat) : Nat := if c < j ∨ (c = j ∧ r < i) then F r c (s r c) else s r c
set_option maxRecDepth 100000 in
set_option maxHeartbeats 2000000 in
/-- ger.each. -/
theorem each_any (m : MatM) (g ca : Nat) (q1 q2 q3 : Value) (F : Nat → Nat → Nat → Nat) (w : World) (hF : FW w g m.ws) (hm : m.good = true) (hwm : m.wf) (hlm : m.ws.length ≤ 1000000) (hr : m.rows ≤ 1000) (hc : m.cols ≤ 1000)
    (hdo : DoesAt w m g q1 q2 q3 F) :
   Calls Try.prog 138 #[.agg #[.slice (some ⟨g, 0, none⟩) m.ws.length ca, .int .i64 m.off, .int .i64 m.rows, .int .i64 m.cols, .int .i64 m.ld], .func (.func 139) #[] #[q1, q2, q3]] w
     (fun e w' => e = .returned (.tuple #[]) ∧ But w [g] w' ∧ ∃ L, FW w' g L ∧ Hold m.place m.rows.toNat m.cols.toNat m.ws L (fun i j => F i j (m.num i j))) := by
  have hn := MatM.good_n hm
  have hltg := hF.lt
  have hpl := MatM.places hm
  have Hm := hid hm
  have hcl : ∀ w', FS w' (.slice (some ⟨g, 0, none⟩) m.ws.length ca) m.ws → True := fun _ _ => trivial
  have hcolA : ∀ (j : Nat) (L : List Nat) w', L.length = m.ws.length → FW w' g L → (j : Int) < m.cols → 0 < m.rows → Calls Try.prog 149 #[.agg #[.slice (some ⟨g, 0, none⟩) m.ws.length ca, .int .i64 m.off, .int .i64 m.rows, .int .i64 m.cols, .int .i64 m.ld], .int .i64 j] w'
      (fun e w2 => e = .returned (.agg #[.slice (some ⟨g, 0, none⟩) m.ws.length ca, .int .i64 (m.off + j * m.ld), .int .i64 m.rows, .int .i64 1]) ∧ ∃ o n, w2 = ext w' o n) := fun j L w' hl h hj h0 => by
    have h1 := h.fs (by omega) ca
    rw [hl] at h1
    have := col_any (withL m L) (.slice (some ⟨g, 0, none⟩) m.ws.length ca) j w' h1 (by rw [withL_good hl]; exact hm) hwm hj
    have e : (colV (withL m L) j).off = m.off + j * m.ld := by unfold colV withL; simp [h0]
    rw [e] at this
    exact this
  by_cases h0 : m.rows = 0
  · have d0 : (m.rows == 0) = true := by simpa using h0
    have hh : Hold m.place m.rows.toNat m.cols.toNat m.ws m.ws (fun i j => F i j (m.num i j)) := ⟨rfl, fun i j hi hj => by omega, fun _ _ => rfl⟩
    clear hdo hm hwm
    go_enter Try.func138, Try.ntmps138
    refine seq_stop ?_
    go_wp2
    refine stop_go (fun W hW => ?_)
    have s1 : w.heap.size < W.heap.size := by rw [hW]; simp only [World.size_alloc]; omega
    have b1 : ∀ i, W.cell? ⟨w.heap.size, i, none⟩ = (#[.slice (some ⟨g, 0, none⟩) m.ws.length ca, .int .i64 m.off, .int .i64 m.rows, .int .i64 m.cols, .int .i64 m.ld] : Array Value)[i]? := by intro i; rw [hW]; go_simp
    have g0 : Grew w W := by rw [hW]; exact (Grew.refl _).alloc _
    clear hW
    go_wp2
    refine bodyPost_ret (v := .tuple #[]) (by simp [results, Try.results138, go_sem, *]) rfl ?_
    exact ⟨rfl, (But.refl w [g]).grew (by (show Grew _ _; repeat (first | (with_reducible exact Grew.refl _) | (with_reducible assumption) | (with_reducible refine Grew.ext ?_ _ _) | (with_reducible refine Grew.alloc ?_ _) | ((with_reducible refine Grew.setCell ?_ ?_ _); rotate_left; (focus (dsimp only; first | omega | (simp only [size_ext, World.size_alloc, Array.size_append]; omega)))) | (with_reducible refine Grew.drewN ?_ _) | (with_reducible refine Grew.drew ?_)))), m.ws, hF.grew (by (show Grew _ _; repeat (first | (with_reducible exact Grew.refl _) | (with_reducible assumption) | (with_reducible refine Grew.ext ?_ _ _) | (with_reducible refine Grew.alloc ?_ _) | ((with_reducible refine Grew.setCell ?_ ?_ _); rotate_left; (focus (dsimp only; first | omega | (simp only [size_ext, World.size_alloc, Array.size_append]; omega)))) | (with_reducible refine Grew.drewN ?_ _) | (with_reducible refine Grew.drew ?_)))), hh⟩
  · have d0 : (m.rows == 0) = false := by simpa using h0
    have h1 : 0 < m.rows := by omega
    clear hm hwm
    go_enter Try.func138, Try.ntmps138
    refine seq_stop ?_
    go_wp2
    refine stop_go (fun W hW => ?_)
    have s1 : w.heap.size < W.heap.size := by rw [hW]; simp only [World.size_alloc]; omega
    have b1 : ∀ i, W.cell? ⟨w.heap.size, i, none⟩ = (#[.slice (some ⟨g, 0, none⟩) m.ws.length ca, .int .i64 m.off, .int .i64 m.rows, .int .i64 m.cols, .int .i64 m.ld] : Array Value)[i]? := by intro i; rw [hW]; go_simp
    have g0 : Grew w W := by rw [hW]; exact (Grew.refl _).alloc _
    clear hW
    have zW := g0.below.size
    have bw : ∀ w', But W [g] w' → But w [g] w' := fun w' h => ((But.refl w [g]).grew g0).trans h (fun _ hb => .inl hb)
    have hFW : FW W g m.ws := hF.grew g0
    have cU : ∀ w', But W [g] w' → ∀ i, w'.cell? ⟨w.heap.size, i, none⟩ = (#[.slice (some ⟨g, 0, none⟩) m.ws.length ca, .int .i64 m.off, .int .i64 m.rows, .int .i64 m.cols, .int .i64 m.ld] : Array Value)[i]? := fun w' h i => (h.cell s1 (by simp; omega)).trans (b1 i)
    go_wp2
    go_loopw [12] (fun c wr => ∃ (j : Nat) (L : List Nat), (j : Int) ≤ m.cols ∧ c = .int .i64 j ∧ But W [g] wr ∧ FW wr g L ∧ Hold m.place m.rows.toNat m.cols.toNat m.ws L (stepF F m.num j 0)) (fun c _ => (m.cols - intOf c).toNat)
    case atStart => exact ⟨0, m.ws, hn.2.1, rfl, But.refl _ _, hFW, MatM.hold.congr fun i j _ _ => by simp [stepF]⟩
    case round =>
      obtain ⟨j, L, hj, rfl, hB, hL, hH⟩ := hrel
      have tT := cU _ hB
      have zB := hB.size
      have kT : w.heap.size < wr.heap.size := by omega
      by_cases hlt : (j : Int) < m.cols
      · have hlt' := hid hlt
        have hcj := fun w' (h : FW w' g L) => hcolA j L w' hH.len h hlt h1
        go_wp2_with (first | (go_at_call 149; ((with_reducible refine (hcj _ hL).mono ?_); rintro e w1 ⟨rfl, oc, nc, rfl⟩)))
        refine name_any (fun V hV => ?_)
        have gV : Grew wr V := by rw [← hV]; (show Grew _ _; repeat (first | (with_reducible exact Grew.refl _) | (with_reducible assumption) | (with_reducible refine Grew.ext ?_ _ _) | (with_reducible refine Grew.alloc ?_ _) | ((with_reducible refine Grew.setCell ?_ ?_ _); rotate_left; (focus (dsimp only; first | omega | (simp only [size_ext, World.size_alloc, Array.size_append]; omega)))) | (with_reducible refine Grew.drewN ?_ _) | (with_reducible refine Grew.drew ?_)))
        have BV : But W [g] V := hB.grew gV
        have cT : ∀ i, V.cell? ⟨wr.heap.size + oc.size, i, none⟩ = (#[.slice (some ⟨g, 0, none⟩) m.ws.length ca, .int .i64 (m.off + j * m.ld), .int .i64 m.rows, .int .i64 1] : Array Value)[i]? := by subst hV; intro i; go_simp
        have kV : wr.heap.size + oc.size < V.heap.size := by rw [← hV]; simp only [World.size_alloc, size_ext]; omega
        obtain ⟨T, hT⟩ : ∃ T, wr.heap.size + oc.size = T := ⟨_, rfl⟩
        have zT : wr.heap.size ≤ T := by omega
        rw [hT] at cT kV
        simp only [hT]
        have ltg2 := hL.lt
        have cV : ∀ w', But V [g] w' → ∀ i, w'.cell? ⟨T, i, none⟩ = (#[.slice (some ⟨g, 0, none⟩) m.ws.length ca, .int .i64 (m.off + j * m.ld), .int .i64 m.rows, .int .i64 1] : Array Value)[i]? := fun w' h i => (h.cell kV (by simp; omega)).trans (cT i)
        have bV : ∀ w', But V [g] w' → But W [g] w' := fun w' h => BV.trans h (fun _ hb => .inl hb)
        have hLV : FW V g L := hL.grew gV
        clear hV hT cT
        go_wp2
        go_loopw [20] (fun c wr => ∃ (i : Nat) (L : List Nat), (i : Int) ≤ m.rows ∧ c = .int .i64 i ∧ But V [g] wr ∧ FW wr g L ∧ Hold m.place m.rows.toNat m.cols.toNat m.ws L (stepF F m.num j i)) (fun c _ => (m.rows - intOf c).toNat)
        case atStart => exact ⟨0, L, by omega, rfl, But.refl _ _, hLV, hH⟩
        case round =>
          obtain ⟨i, L2, hi, rfl, hB2, hL2, hH2⟩ := hrel
          have tV := cV _ hB2
          have zB2 := hB2.size
          have kT2 : T < wr.heap.size := by omega
          by_cases hli : (i : Int) < m.rows
          · have hp := MatM.good_place Hm.out hli hlt'.out
            have r1 : IntKind.i64.wrap (m.off + j * m.ld + i) = m.off + j * m.ld + i := IntWalk.i64_in _ (by omega)
            have e1 : 0 ≤ m.off + j * m.ld + i := by omega
            have e2 : m.off + j * m.ld + i < m.ws.length := by omega
            have hcall := hdo wr L2 _ (bw _ (bV _ hB2)) hL2 hH2 i j hli hlt'.out
            go_wp2_with (first | (go_at_call 139; ((with_reducible refine (hcall).mono ?_); rintro e w1 ⟨rfl, hw1⟩)))
            go_roundw
            case rel =>
              refine ⟨i + 1, _, by omega, by go_num, hB2.wrote hw1 (.inl (by simp)), hw1.fw hL2, (hH2.set hpl (by omega) (by have := hlt'.out; omega)).congr fun r c hr hc => ?_⟩
              unfold stepF
              by_cases hrc : r = i ∧ c = j
              · obtain ⟨rfl, rfl⟩ := hrc
                simp
              · rw [if_neg hrc]
                by_cases h2 : c < j ∨ (c = j ∧ r < i)
                · rw [if_pos h2, if_pos (by omega)]
                · rw [if_neg h2, if_neg (by omega)]
            case measure => simp [intOf]; omega
          · have e : i = m.rows.toNat := by omega
            go_wp2
            go_roundw
            case rel =>
              refine ⟨j + 1, L2, by have := hlt'.out; omega, by go_num, bV _ hB2, hL2, hH2.congr fun r c hr hc => ?_⟩
              unfold stepF
              by_cases h2 : c < j ∨ (c = j ∧ r < i)
              · rw [if_pos h2, if_pos (by omega)]
              · rw [if_neg h2, if_neg (by omega)]
            case measure => (have := hlt'.out; simp [intOf]; omega)
      · go_wp2
        go_end0
        refine ⟨rfl, bw _ hB, L, hL, hH.congr fun r c hr hc => ?_⟩
        unfold stepF
        rw [if_pos (by omega)]
end Go.Proofs.Ytcmggfpcbijcjaa
