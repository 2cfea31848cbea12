/-
  Texts laid one behind the other (a claim has at most 60 files): Ger1, OwnI, Dig, Dint, Dy1, Boxd, Ger3, OwnB, Equil1, GrewA, Equil2, ColV.
-/
import Derived.Maps.AppendAt
import Derived.Test.YtcmggfpcbijcjaaQEquilScales1
import Derived.Test.YtcmggfpcbijcjaaQEquilScales2
import Derived.Test.YtcmggfpcbijcjaaQEquilScales3
import Derived.Test.YtcmggfpcbijcjaaQEquilScales4
import Derived.Test.YtcmggfpcbijcjaaQEquilScales5
section
/-
  Contracts: view.Col, ger.row, ger.Ger's closure, ger.each.
-/
set_option linter.unusedSimpArgs false
set_option linter.unusedVariables false
open Go Go.RowKit Sedge
namespace Go.Proofs.Ytcmggfpcbijcjaa
def colV (m : MatM) (j : Nat) : VecM := ⟨m.ws, if 0 < m.rows then m.off + j * m.ld else m.off, m.rows, 1⟩
set_option maxRecDepth 100000 in
set_option maxHeartbeats 1000000 in
/-- view.Col. -/
theorem col_any (x : MatM) (D : Value) (j : Nat) (w : World) (hD : FS w D x.ws) (hx : x.good = true) (hwf : x.wf) (hj : (j : Int) < x.cols) :
   Calls Try.prog 149 #[.agg #[D, .int .i64 x.off, .int .i64 x.rows, .int .i64 x.cols, .int .i64 x.ld], .int .i64 j] w
     (fun e w' => e = .returned (.agg #[D, .int .i64 (colV x j).off, .int .i64 x.rows, .int .i64 1]) ∧ ∃ o n, w' = ext w o n) := by
  have hn := MatM.good_n hx
  obtain ⟨aD, capD, rfl⟩ := hD.shape
  have k1 : (!x.good) = false := by simp [hx]
  have hlen := hD.len
  have Hw := hid hwf
  have k3 : decide ((j : Int) < 0) = false := by simp
  have k4 : decide (x.cols ≤ (j : Int)) = false := by simp; omega
  by_cases hc : 0 < x.rows
  · have hp := MatM.good_place hx (i := 0) (j := j) (by simpa using hc) hj
    simp only [Int.natCast_zero, Int.add_zero] at hp
    have e : (colV x j).off = x.off + j * x.ld := by simp [colV, hc]
    have r1 : IntKind.i64.wrap ((j : Int) * x.ld) = j * x.ld := IntWalk.i64_in _ (by omega)
    have r2 : IntKind.i64.wrap (x.off + j * x.ld) = x.off + j * x.ld := IntWalk.i64_in _ (by omega)
    have Hx := hid hx
    have d5 : decide (0 < x.rows) = true := by simpa using hc
    rw [e]
    clear hx hwf e
    go_enter Try.func149, Try.ntmps149
    refine seq_stop ?_
    go_wp2
    refine stop_go (fun W hW => ?_)
    have s1 : w.heap.size < W.heap.size := by rw [hW]; simp only [World.size_alloc]; omega
    have b1 : ∀ i, W.cell? ⟨w.heap.size, i, none⟩ = (#[.slice aD x.ws.length capD, .int .i64 x.off, .int .i64 x.rows, .int .i64 x.cols, .int .i64 x.ld] : Array Value)[i]? := by intro i; rw [hW]; go_simp
    have f1 : ∀ i, W.frozen? ⟨w.heap.size, i, none⟩ = false := by intro i; rw [hW]; go_simp
    have s2 : w.heap.size + 1 < W.heap.size := by rw [hW]; simp only [World.size_alloc]; omega
    have b2 : ∀ i, W.cell? ⟨w.heap.size + 1, i, none⟩ = (#[.slice none 0 0, .int .i64 0, .int .i64 0, .int .i64 0] : Array Value)[i]? := by intro i; rw [hW]; go_simp
    have f2 : ∀ i, W.frozen? ⟨w.heap.size + 1, i, none⟩ = false := by intro i; rw [hW]; go_simp
    have g0 : Grew w W := by rw [hW]; exact ((Grew.refl _).alloc _).alloc _
    clear hW
    have hDW : FS W (.slice aD x.ws.length capD) x.ws := hD.grew g0
    go_wp2_with (first | (go_at_call 130; ((with_reducible refine (good_any x _ _ ?_ Hw.out).mono ?_); (focus (first | (with_reducible assumption) | (with_reducible refine FS.ext ?_ _ _; with_reducible assumption) | (with_reducible refine IS.ext ?_ _ _; with_reducible assumption) | (refine hDu _ ?_; with_reducible assumption) | (refine hOu _ ?_; with_reducible assumption) | (refine hDa _ ?_; with_reducible assumption) | (refine hDb _ ?_; with_reducible assumption) | (refine hDc _ ?_; with_reducible assumption) | (refine hDd _ ?_; with_reducible assumption) | (refine FW.fs ?_ (by omega) _; with_reducible assumption) | (refine WS.fs ?_; with_reducible assumption) | (refine FW.fs ?_ (by omega) _; assumption) | omega | assumption)); rintro e w1 ⟨rfl, o1, n1, rfl⟩)))
    refine bodyPost_ret (v := .agg #[.slice aD x.ws.length capD, .int .i64 (x.off + j * x.ld), .int .i64 x.rows, .int .i64 1]) (by simp [results, Try.results149, go_sem, *]) rfl ?_
    exact ⟨rfl, by (show Grew _ _; repeat (first | (with_reducible exact Grew.refl _) | (with_reducible assumption) | (with_reducible exact Grew.same_o) | (with_reducible exact Grew.app_o) | (with_reducible refine Grew.ext ?_ _ _) | (with_reducible refine Grew.alloc ?_ _) | ((with_reducible refine Grew.setCell ?_ ?_ _); rotate_left; (focus (dsimp only; first | omega | (simp only [size_ext, World.size_alloc, Array.size_append]; omega)))) | (with_reducible refine Grew.drewN ?_ _) | (with_reducible refine Grew.drew ?_)))⟩
  · have e : (colV x j).off = x.off := by simp [colV, hc]
    have Hx := hid hx
    have d5 : decide (0 < x.rows) = false := by simpa using hc
    rw [e]
    clear hx hwf e
    go_enter Try.func149, Try.ntmps149
    refine seq_stop ?_
    go_wp2
    refine stop_go (fun W hW => ?_)
    have s1 : w.heap.size < W.heap.size := by rw [hW]; simp only [World.size_alloc]; omega
    have b1 : ∀ i, W.cell? ⟨w.heap.size, i, none⟩ = (#[.slice aD x.ws.length capD, .int .i64 x.off, .int .i64 x.rows, .int .i64 x.cols, .int .i64 x.ld] : Array Value)[i]? := by intro i; rw [hW]; go_simp
    have f1 : ∀ i, W.frozen? ⟨w.heap.size, i, none⟩ = false := by intro i; rw [hW]; go_simp
    have s2 : w.heap.size + 1 < W.heap.size := by rw [hW]; simp only [World.size_alloc]; omega
    have b2 : ∀ i, W.cell? ⟨w.heap.size + 1, i, none⟩ = (#[.slice none 0 0, .int .i64 0, .int .i64 0, .int .i64 0] : Array Value)[i]? := by intro i; rw [hW]; go_simp
    have f2 : ∀ i, W.frozen? ⟨w.heap.size + 1, i, none⟩ = false := by intro i; rw [hW]; go_simp
    have g0 : Grew w W := by rw [hW]; exact ((Grew.refl _).alloc _).alloc _
    clear hW
    have hDW : FS W (.slice aD x.ws.length capD) x.ws := hD.grew g0
    go_wp2_with (first | (go_at_call 130; ((with_reducible refine (good_any x _ _ ?_ Hw.out).mono ?_); (focus (first | (with_reducible assumption) | (with_reducible refine FS.ext ?_ _ _; with_reducible assumption) | (with_reducible refine IS.ext ?_ _ _; with_reducible assumption) | (refine hDu _ ?_; with_reducible assumption) | (refine hOu _ ?_; with_reducible assumption) | (refine hDa _ ?_; with_reducible assumption) | (refine hDb _ ?_; with_reducible assumption) | (refine hDc _ ?_; with_reducible assumption) | (refine hDd _ ?_; with_reducible assumption) | (refine FW.fs ?_ (by omega) _; with_reducible assumption) | (refine WS.fs ?_; with_reducible assumption) | (refine FW.fs ?_ (by omega) _; assumption) | omega | assumption)); rintro e w1 ⟨rfl, o1, n1, rfl⟩)))
    refine bodyPost_ret (v := .agg #[.slice aD x.ws.length capD, .int .i64 x.off, .int .i64 x.rows, .int .i64 1]) (by simp [results, Try.results149, go_sem, *]) rfl ?_
    exact ⟨rfl, by (show Grew _ _; repeat (first | (with_reducible exact Grew.refl _) | (with_reducible assumption) | (with_reducible exact Grew.same_o) | (with_reducible exact Grew.app_o) | (with_reducible refine Grew.ext ?_ _ _) | (with_reducible refine Grew.alloc ?_ _) | ((with_reducible refine Grew.setCell ?_ ?_ _); rotate_left; (focus (dsimp only; first | omega | (simp only [size_ext, World.size_alloc, Array.size_append]; omega)))) | (with_reducible refine Grew.drewN ?_ _) | (with_reducible refine Grew.drew ?_)))⟩
set_option maxRecDepth 100000 in
set_option maxHeartbeats 1000000 in
/-- ger.row. -/
theorem grow_any (x : VecM) (a : Option Addr) (l c : Nat) (w : World) :
   Calls Try.prog 137 #[.agg #[.slice a l c, .int .i64 x.off, .int .i64 x.n, .int .i64 x.inc]] w (fun e w' => e = .returned (.agg #[.slice a l c, .int .i64 x.off, .int .i64 1, .int .i64 x.n, .int .i64 x.inc]) ∧ ∃ o n, w' = ext w o n) := by
  go_enter Try.func137, Try.ntmps137
  refine seq_stop ?_
  go_wp2
  refine stop_go (fun W hW => ?_)
  have s1 : w.heap.size < W.heap.size := by rw [hW]; simp only [World.size_alloc]; omega
  have b1 : ∀ i, W.cell? ⟨w.heap.size, i, none⟩ = (#[.slice a l c, .int .i64 x.off, .int .i64 x.n, .int .i64 x.inc] : Array Value)[i]? := by intro i; rw [hW]; go_simp
  have f1 : ∀ i, W.frozen? ⟨w.heap.size, i, none⟩ = false := by intro i; rw [hW]; go_simp
  have s2 : w.heap.size + 1 < W.heap.size := by rw [hW]; simp only [World.size_alloc]; omega
  have b2 : ∀ i, W.cell? ⟨w.heap.size + 1, i, none⟩ = (#[.slice none 0 0, .int .i64 0, .int .i64 0, .int .i64 0, .int .i64 0] : Array Value)[i]? := by intro i; rw [hW]; go_simp
  have f2 : ∀ i, W.frozen? ⟨w.heap.size + 1, i, none⟩ = false := by intro i; rw [hW]; go_simp
  have g0 : Grew w W := by rw [hW]; exact ((Grew.refl _).alloc _).alloc _
  clear hW
  go_wp2
  refine bodyPost_ret (v := .agg #[.slice a l c, .int .i64 x.off, .int .i64 1, .int .i64 x.n, .int .i64 x.inc]) (by simp [results, Try.results137, go_sem, *]) rfl ?_
  exact ⟨rfl, by (show Grew _ _; repeat (first | (with_reducible exact Grew.refl _) | (with_reducible assumption) | (with_reducible exact Grew.same_o) | (with_reducible exact Grew.app_o) | (with_reducible refine Grew.ext ?_ _ _) | (with_reducible refine Grew.alloc ?_ _) | ((with_reducible refine Grew.setCell ?_ ?_ _); rotate_left; (focus (dsimp only; first | omega | (simp only [size_ext, World.size_alloc, Array.size_append]; omega)))) | (with_reducible refine Grew.drewN ?_ _) | (with_reducible refine Grew.drew ?_)))⟩
theorem hmf (fn : Fn) (first cap : Array Value) (w : World) : (Instr.makeFunc fn first cap).run Try.prog w = .ok (.func fn first cap) w := rfl
/-- What a closure of ger.each does at a place. -/
def DoesAt (w : World) (m : MatM) (g : Nat) (q1 q2 q3 : Value) (F : Nat → Nat → Nat → Nat) : Prop :=
  ∀ w' L s, But w [g] w' → FW w' g L → Hold m.place m.rows.toNat m.cols.toNat m.ws L s → ∀ i j : Nat, (i : Int) < m.rows → (j : Int) < m.cols →
    Calls Try.prog 139 #[.int .i64 i, .int .i64 j, .pointer (some ⟨g, (m.off + j * m.ld + i).toNat, none⟩), q1, q2, q3] w' (fun e w2 => e = .returned (.tuple #[]) ∧ Wrote w' w2 g (L.set (m.place i j) (F i j (s i j))))
def stepF (F : Nat → Nat → Nat → Nat) (s : Nat → Nat → Nat) (j i : Nat) (r c : Nat) : Nat := if c < j ∨ (c = j ∧ r < i) then F r c (s r c) else s r c
set_option maxRecDepth 100000 in
set_option maxHeartbeats 2000000 in
/-- ger.each. -/
theorem each_any (m : MatM) (g ca : Nat) (q1 q2 q3 : Value) (F : Nat → Nat → Nat → Nat) (w : World) (hF : FW w g m.ws) (hm : m.good = true) (hwm : m.wf) (hlm : m.ws.length ≤ 1000000) (hr : m.rows ≤ 1000) (hc : m.cols ≤ 1000)
    (hdo : DoesAt w m g q1 q2 q3 F) :
   Calls Try.prog 138 #[.agg #[.slice (some ⟨g, 0, none⟩) m.ws.length ca, .int .i64 m.off, .int .i64 m.rows, .int .i64 m.cols, .int .i64 m.ld], .func (.func 139) #[] #[q1, q2, q3]] w
     (fun e w' => e = .returned (.tuple #[]) ∧ But w [g] w' ∧ ∃ L, FW w' g L ∧ Hold m.place m.rows.toNat m.cols.toNat m.ws L (fun i j => F i j (m.num i j))) := by
  have hn := MatM.good_n hm
  have hltg := hF.lt
  have hpl := MatM.places hm
  have Hm := hid hm
  have hcl : ∀ w', FS w' (.slice (some ⟨g, 0, none⟩) m.ws.length ca) m.ws → True := fun _ _ => trivial
  have hcolA : ∀ (j : Nat) (L : List Nat) w', L.length = m.ws.length → FW w' g L → (j : Int) < m.cols → 0 < m.rows → Calls Try.prog 149 #[.agg #[.slice (some ⟨g, 0, none⟩) m.ws.length ca, .int .i64 m.off, .int .i64 m.rows, .int .i64 m.cols, .int .i64 m.ld], .int .i64 j] w'
      (fun e w2 => e = .returned (.agg #[.slice (some ⟨g, 0, none⟩) m.ws.length ca, .int .i64 (m.off + j * m.ld), .int .i64 m.rows, .int .i64 1]) ∧ ∃ o n, w2 = ext w' o n) := fun j L w' hl h hj h0 => by
    have h1 := h.fs (by omega) ca
    rw [hl] at h1
    have := col_any (withL m L) (.slice (some ⟨g, 0, none⟩) m.ws.length ca) j w' h1 (by rw [withL_good hl]; exact hm) hwm hj
    have e : (colV (withL m L) j).off = m.off + j * m.ld := by unfold colV withL; simp [h0]
    rw [e] at this
    exact this
  by_cases h0 : m.rows = 0
  · have d0 : (m.rows == 0) = true := by simpa using h0
    have hh : Hold m.place m.rows.toNat m.cols.toNat m.ws m.ws (fun i j => F i j (m.num i j)) := ⟨rfl, fun i j hi hj => by omega, fun _ _ => rfl⟩
    clear hdo hm hwm
    go_enter Try.func138, Try.ntmps138
    refine seq_stop ?_
    go_wp2
    refine stop_go (fun W hW => ?_)
    have s1 : w.heap.size < W.heap.size := by rw [hW]; simp only [World.size_alloc]; omega
    have b1 : ∀ i, W.cell? ⟨w.heap.size, i, none⟩ = (#[.slice (some ⟨g, 0, none⟩) m.ws.length ca, .int .i64 m.off, .int .i64 m.rows, .int .i64 m.cols, .int .i64 m.ld] : Array Value)[i]? := by intro i; rw [hW]; go_simp
    have g0 : Grew w W := by rw [hW]; exact (Grew.refl _).alloc _
    clear hW
    go_wp2
    refine bodyPost_ret (v := .tuple #[]) (by simp [results, Try.results138, go_sem, *]) rfl ?_
    exact ⟨rfl, (But.refl w [g]).grew (by (show Grew _ _; repeat (first | (with_reducible exact Grew.refl _) | (with_reducible assumption) | (with_reducible exact Grew.same_o) | (with_reducible exact Grew.app_o) | (with_reducible refine Grew.ext ?_ _ _) | (with_reducible refine Grew.alloc ?_ _) | ((with_reducible refine Grew.setCell ?_ ?_ _); rotate_left; (focus (dsimp only; first | omega | (simp only [size_ext, World.size_alloc, Array.size_append]; omega)))) | (with_reducible refine Grew.drewN ?_ _) | (with_reducible refine Grew.drew ?_)))), m.ws, hF.grew (by (show Grew _ _; repeat (first | (with_reducible exact Grew.refl _) | (with_reducible assumption) | (with_reducible exact Grew.same_o) | (with_reducible exact Grew.app_o) | (with_reducible refine Grew.ext ?_ _ _) | (with_reducible refine Grew.alloc ?_ _) | ((with_reducible refine Grew.setCell ?_ ?_ _); rotate_left; (focus (dsimp only; first | omega | (simp only [size_ext, World.size_alloc, Array.size_append]; omega)))) | (with_reducible refine Grew.drewN ?_ _) | (with_reducible refine Grew.drew ?_)))), hh⟩
  · have d0 : (m.rows == 0) = false := by simpa using h0
    have h1 : 0 < m.rows := by omega
    clear hm hwm
    go_enter Try.func138, Try.ntmps138
    refine seq_stop ?_
    go_wp2
    refine stop_go (fun W hW => ?_)
    have s1 : w.heap.size < W.heap.size := by rw [hW]; simp only [World.size_alloc]; omega
    have b1 : ∀ i, W.cell? ⟨w.heap.size, i, none⟩ = (#[.slice (some ⟨g, 0, none⟩) m.ws.length ca, .int .i64 m.off, .int .i64 m.rows, .int .i64 m.cols, .int .i64 m.ld] : Array Value)[i]? := by intro i; rw [hW]; go_simp
    have g0 : Grew w W := by rw [hW]; exact (Grew.refl _).alloc _
    clear hW
    have zW := g0.below.size
    have bw : ∀ w', But W [g] w' → But w [g] w' := fun w' h => ((But.refl w [g]).grew g0).trans h (fun _ hb => .inl hb)
    have hFW : FW W g m.ws := hF.grew g0
    have cU : ∀ w', But W [g] w' → ∀ i, w'.cell? ⟨w.heap.size, i, none⟩ = (#[.slice (some ⟨g, 0, none⟩) m.ws.length ca, .int .i64 m.off, .int .i64 m.rows, .int .i64 m.cols, .int .i64 m.ld] : Array Value)[i]? := fun w' h i => (h.cell s1 (by simp; omega)).trans (b1 i)
    go_wp2
    go_loopw [12] (fun c wr => ∃ (j : Nat) (L : List Nat), (j : Int) ≤ m.cols ∧ c = .int .i64 j ∧ But W [g] wr ∧ FW wr g L ∧ Hold m.place m.rows.toNat m.cols.toNat m.ws L (stepF F m.num j 0)) (fun c _ => (m.cols - intOf c).toNat)
    case atStart => exact ⟨0, m.ws, hn.2.1, rfl, But.refl _ _, hFW, MatM.hold.congr fun i j _ _ => by simp [stepF]⟩
    case round =>
      obtain ⟨j, L, hj, rfl, hB, hL, hH⟩ := hrel
      have tT := cU _ hB
      have zB := hB.size
      have kT : w.heap.size < wr.heap.size := by omega
      by_cases hlt : (j : Int) < m.cols
      · have hlt' := hid hlt
        have hcj := fun w' (h : FW w' g L) => hcolA j L w' hH.len h hlt h1
        go_wp2_with (first | (go_at_call 149; ((with_reducible refine (hcj _ hL).mono ?_); rintro e w1 ⟨rfl, oc, nc, rfl⟩)))
        refine name_any (fun V hV => ?_)
        have gV : Grew wr V := by rw [← hV]; (show Grew _ _; repeat (first | (with_reducible exact Grew.refl _) | (with_reducible assumption) | (with_reducible exact Grew.same_o) | (with_reducible exact Grew.app_o) | (with_reducible refine Grew.ext ?_ _ _) | (with_reducible refine Grew.alloc ?_ _) | ((with_reducible refine Grew.setCell ?_ ?_ _); rotate_left; (focus (dsimp only; first | omega | (simp only [size_ext, World.size_alloc, Array.size_append]; omega)))) | (with_reducible refine Grew.drewN ?_ _) | (with_reducible refine Grew.drew ?_)))
        have BV : But W [g] V := hB.grew gV
        have cT : ∀ i, V.cell? ⟨wr.heap.size + oc.size, i, none⟩ = (#[.slice (some ⟨g, 0, none⟩) m.ws.length ca, .int .i64 (m.off + j * m.ld), .int .i64 m.rows, .int .i64 1] : Array Value)[i]? := by subst hV; intro i; go_simp
        have kV : wr.heap.size + oc.size < V.heap.size := by rw [← hV]; simp only [World.size_alloc, size_ext]; omega
        obtain ⟨T, hT⟩ : ∃ T, wr.heap.size + oc.size = T := ⟨_, rfl⟩
        have zT : wr.heap.size ≤ T := by omega
        rw [hT] at cT kV
        simp only [hT]
        have ltg2 := hL.lt
        have cV : ∀ w', But V [g] w' → ∀ i, w'.cell? ⟨T, i, none⟩ = (#[.slice (some ⟨g, 0, none⟩) m.ws.length ca, .int .i64 (m.off + j * m.ld), .int .i64 m.rows, .int .i64 1] : Array Value)[i]? := fun w' h i => (h.cell kV (by simp; omega)).trans (cT i)
        have bV : ∀ w', But V [g] w' → But W [g] w' := fun w' h => BV.trans h (fun _ hb => .inl hb)
        have hLV : FW V g L := hL.grew gV
        clear hV hT cT
        go_wp2
        go_loopw [20] (fun c wr => ∃ (i : Nat) (L : List Nat), (i : Int) ≤ m.rows ∧ c = .int .i64 i ∧ But V [g] wr ∧ FW wr g L ∧ Hold m.place m.rows.toNat m.cols.toNat m.ws L (stepF F m.num j i)) (fun c _ => (m.rows - intOf c).toNat)
        case atStart => exact ⟨0, L, by omega, rfl, But.refl _ _, hLV, hH⟩
        case round =>
          obtain ⟨i, L2, hi, rfl, hB2, hL2, hH2⟩ := hrel
          have tV := cV _ hB2
          have zB2 := hB2.size
          have kT2 : T < wr.heap.size := by omega
          by_cases hli : (i : Int) < m.rows
          · have hp := MatM.good_place Hm.out hli hlt'.out
            have r1 : IntKind.i64.wrap (m.off + j * m.ld + i) = m.off + j * m.ld + i := IntWalk.i64_in _ (by omega)
            have e1 : 0 ≤ m.off + j * m.ld + i := by omega
            have e2 : m.off + j * m.ld + i < m.ws.length := by omega
            have hcall := hdo wr L2 _ (bw _ (bV _ hB2)) hL2 hH2 i j hli hlt'.out
            go_wp2_with (first | (go_at_call 139; ((with_reducible refine (hcall).mono ?_); rintro e w1 ⟨rfl, hw1⟩)))
            go_roundw
            case rel =>
              refine ⟨i + 1, _, by omega, by go_num, hB2.wrote hw1 (.inl (by simp)), hw1.fw hL2, (hH2.set hpl (by omega) (by have := hlt'.out; omega)).congr fun r c hr hc => ?_⟩
              unfold stepF
              by_cases hrc : r = i ∧ c = j
              · obtain ⟨rfl, rfl⟩ := hrc
                simp
              · rw [if_neg hrc]
                by_cases h2 : c < j ∨ (c = j ∧ r < i)
                · rw [if_pos h2, if_pos (by omega)]
                · rw [if_neg h2, if_neg (by omega)]
            case measure => simp [intOf]; omega
          · have e : i = m.rows.toNat := by omega
            go_wp2
            go_roundw
            case rel =>
              refine ⟨j + 1, L2, by have := hlt'.out; omega, by go_num, bV _ hB2, hL2, hH2.congr fun r c hr hc => ?_⟩
              unfold stepF
              by_cases h2 : c < j ∨ (c = j ∧ r < i)
              · rw [if_pos h2, if_pos (by omega)]
              · rw [if_neg h2, if_neg (by omega)]
            case measure => (have := hlt'.out; simp [intOf]; omega)
      · go_wp2
        go_end0
        refine ⟨rfl, bw _ hB, L, hL, hH.congr fun r c hr hc => ?_⟩
        unfold stepF
        rw [if_pos (by omega)]
end Go.Proofs.Ytcmggfpcbijcjaa
end
section
/-
  Slices of whole numbers that a call makes itself: appends, two slices beside one another.
-/
set_option linter.unusedSimpArgs false
set_option linter.unusedVariables false
namespace Sedge
open Go Go.RowKit
/-- Their own blocks are not one. -/
def ApartV (u v : Value) : Prop := ∀ k, u.ownBlock = some k → v.ownBlock ≠ some k
section
variable {P : Program} {ops : Array Oper} {rest : List Oper} {o : Oper} {a : Act} {Q : Exit → Act → World → Prop}
theorem append1_v {t e e' : TypeId} {z0 : Value} (und : P.underlying t = some (.slice e)) (info : (P.info? e).map (fun i => (i.zero, i.size, i.bytes)) = some (some z0, 1, 8)) (hz0 : z0.cells.size = 1)
    {W w : World} (hW : Grew W w) {v y : Value} {xs : List Value} (hown : w.ownsRow W.heap.size e 1 v xs.length xs) (hy : y.oneCell' = true)
    (hlen : xs.length < 17592186044415) (s x : Operand) (hg : o.guard = none)
    (ho : o.op = .call { callee := .builtin .append, args := #[s, x], argTypes := #[t, t] }) (hs : a.eval s = v) {k : Nat} (hk : k = w.heap.size) (hx : a.eval x = .slice (some ⟨k, 0, none⟩) 1 1)
    (h : ∀ v' oo nn, (ext W oo nn).ownsRow W.heap.size e 1 v' (xs.length + 1) (xs ++ [y]) →
      (∀ e2 u n2 ys, w.ownsRow W.heap.size e2 1 u n2 ys → ApartV u v → (ext W oo nn).ownsRow W.heap.size e2 1 u n2 ys ∧ ApartV u v') → wpList P ops Q rest (a.put o.dst v') (ext W oo nn)) :
    wpList P ops Q (o :: rest) a (w.alloc (.cells #[y] e')) := by
  subst hk
  obtain ⟨i0, hi, hz⟩ := Option.map_eq_some_iff.1 info
  simp only [Prod.mk.injEq] at hz
  obtain ⟨hz1, hz2, hz3⟩ := hz
  have hgA : Grew w (w.alloc (.cells #[y] e')) := (Grew.refl w).alloc _
  have keep : ∀ e2 u n2 ys (w' : World), w.ownsRow W.heap.size e2 1 u n2 ys → (∀ k, u.ownBlock = some k → w'.heap[k]? = w.heap[k]?) → w'.ownsRow W.heap.size e2 1 u n2 ys := fun e2 u n2 ys w' hu hk => by
    obtain ⟨h1, h2⟩ := hu
    refine ⟨h1, ?_⟩
    rcases h2 with h2 | ⟨g, cap, cur, rfl, hB, hh, r⟩
    · exact .inl h2
    · exact .inr ⟨g, cap, cur, rfl, hB, by rw [hk g rfl]; exact hh, r⟩
  have hown' := keep _ _ _ _ (w.alloc (.cells #[y] e')) hown (fun k hk => hgA.below.block k (hown.lt k hk).2)
  refine wpList_append_own_at _ hg s x t ho W.heap.size e i0 z0 1 8 und hi hz1 hz2 hz3 hz0 (by decide) v xs.length xs hs hown' ⟨w.heap.size, 0, none⟩ 1 1 [y] hx rfl ?_ ?_ ?_ ?_ ?_ ?_
  · intro j u hj
    match j, hj with
    | 0, hj =>
      simp at hj; subst hj
      have e1 : (⟨w.heap.size, 0, none⟩ : Addr).add 0 = ⟨w.heap.size, 0, none⟩ := by simp [Addr.add]
      rw [e1, World.cell?_alloc_new]; rfl
  · intro u hu; simp at hu; subst hu; exact hy
  · simp [maxLen]; omega
  · omega
  · have := hW.below.size; simp; omega
  · intro v' w' ho2 hgr hnn hloc
    obtain ⟨oo, nn, rfl⟩ := grew_grown (hW.alloc (.cells #[y] e')) hgr (fun k hk => (hown.lt k hk).1)
    refine h v' oo nn ho2 fun e2 u n2 ys hu hap => ⟨keep _ _ _ _ _ hu fun k hk => ?_, fun k hk => ?_⟩
    · have hlt := (hu.lt k hk).2
      exact (hgr.block k (Nat.lt_of_lt_of_le hlt hgA.below.size) (fun e => hap k hk e.symm)).trans (hgA.below.block k hlt)
    · have hlt := (hu.lt k hk).2
      rcases hloc with h1 | h1
      · rw [h1]; exact hap k hk
      · rw [h1]; intro e; simp at e; omega
end
/-- The slice v of ours owns the whole numbers zs. -/
def OwnI (w : World) (B : Nat) (v : Value) (zs : List Int) : Prop := w.ownsRow B 3 1 v zs.length (zs.map (Value.int .i64))
theorem OwnI.nil (w : World) (B : Nat) : OwnI w B (.slice none 0 0) [] := ⟨by simp, .inl ⟨rfl, rfl⟩⟩
theorem OwnI.grew {w w' : World} {B : Nat} {v : Value} {zs : List Int} (h : OwnI w B v zs) (g : Grew w w') : OwnI w' B v zs := by
  obtain ⟨h0, h1⟩ := h
  refine ⟨h0, ?_⟩
  rcases h1 with h1 | ⟨gg, cap, cur, hv, hB, hh, r⟩
  · exact .inl h1
  · have hlt : gg < w.heap.size := by
      rcases Nat.lt_or_ge gg w.heap.size with h | h
      · exact h
      · rw [Array.getElem?_eq_none h] at hh; cases hh
    exact .inr ⟨gg, cap, cur, hv, hB, by rw [g.below.block gg hlt]; exact hh, r⟩
theorem OwnI.is {w : World} {B : Nat} {v : Value} {zs : List Int} (h : OwnI w B v zs) (hl : zs.length ≤ 9223372036854775807) : IS .i64 w v zs := by
  obtain ⟨_, h1⟩ := h
  rcases h1 with ⟨rfl, h1⟩ | ⟨g, cap, cur, rfl, _, hh, hn, hm, hsz, ht⟩
  · have : zs = [] := List.length_eq_zero_iff.1 h1
    subst this
    exact ⟨by simp, none, 0, rfl, fun i hi => by simp at hi⟩
  · refine ⟨hl, some ⟨g, 0, none⟩, cap, rfl, fun i hi => ⟨g, 0, rfl, ?_⟩⟩
    rw [Nat.mul_one] at ht
    have := take_getElem? (i := i) ht (by simpa using hi)
    simp only [World.cell?, hh, Nat.zero_add, Option.isSome_none, Bool.false_eq_true, if_false]
    rw [← Array.getElem?_toList, this]
    simp [List.getD_eq_getElem?_getD, hi]
end Sedge
end
section
/-
  Plain laws on the reference's digits: lists of 16 bits, what they are worth.
-/
set_option linter.unusedSimpArgs false
set_option linter.unusedVariables false
namespace Sedge
open Ieee

def dv : List Nat → Nat
  | [] => 0
  | d :: l => d + 65536 * dv l
theorem dv_append : ∀ (a b : List Nat), dv (a ++ b) = dv a + 65536 ^ a.length * dv b
  | [], b => by simp [dv]
  | d :: a, b => by
    show d + 65536 * dv (a ++ b) = d + 65536 * dv a + 65536 ^ (a.length + 1) * dv b
    rw [dv_append a b, Nat.pow_succ, Nat.mul_add, Nat.mul_comm (65536 ^ a.length) 65536, Nat.mul_assoc]; omega
def Dg (l : List Nat) : Prop := ∀ d ∈ l, d < 65536
theorem Dg.nil : Dg [] := fun d h => by cases h
theorem Dg.tail {d : Nat} {l : List Nat} (h : Dg (d :: l)) : Dg l := fun x hx => h x (List.mem_cons_of_mem _ hx)
theorem Dg.append {a b : List Nat} (h : Dg a) (k : Dg b) : Dg (a ++ b) := fun x hx => by
  rcases List.mem_append.1 hx with hx | hx
  · exact h x hx
  · exact k x hx
theorem Dg.one {d : Nat} (h : d < 65536) : Dg [d] := fun x hx => by simp at hx; omega
theorem Dg.get {l : List Nat} (h : Dg l) (i : Nat) : l.getD i 0 < 65536 := by
  rw [List.getD_eq_getElem?_getD]
  by_cases hi : i < l.length
  · rw [List.getElem?_eq_getElem hi]; exact h _ (List.getElem_mem hi)
  · rw [List.getElem?_eq_none (by omega)]; decide
theorem Dg.set {l : List Nat} (h : Dg l) (i : Nat) {x : Nat} (hx : x < 65536) : Dg (l.set i x) := fun d hd => by
  rcases List.mem_or_eq_of_mem_set hd with hd | hd
  · exact h d hd
  · omega
theorem Dg.replicate (n : Nat) : Dg (List.replicate n 0) := fun d hd => by rw [List.eq_of_mem_replicate hd]; decide
theorem Dg.dropLast {l : List Nat} (h : Dg l) : Dg l.dropLast := fun d hd => h d (List.dropLast_subset l hd)
theorem dv_lt : ∀ {l : List Nat}, Dg l → dv l < 65536 ^ l.length
  | [], _ => by simp [dv]
  | d :: l, h => by
    have h1 := dv_lt h.tail
    have h2 := h d (List.mem_cons_self ..)
    show d + 65536 * dv l < 65536 ^ (l.length + 1)
    rw [Nat.pow_succ]; omega
theorem dv_replicate : ∀ n, dv (List.replicate n 0) = 0
  | 0 => rfl
  | n + 1 => by show 0 + 65536 * dv (List.replicate n 0) = 0; rw [dv_replicate n]
theorem dv_set : ∀ {l : List Nat} {i : Nat}, i < l.length → ∀ x, dv (l.set i x) + l.getD i 0 * 65536 ^ i = dv l + x * 65536 ^ i
  | [], i, h, x => by simp at h
  | d :: l, 0, h, x => by simp [dv]; omega
  | d :: l, i + 1, h, x => by
    have := dv_set (l := l) (i := i) (by simpa using h) x
    show d + 65536 * dv (l.set i x) + l.getD i 0 * 65536 ^ (i + 1) = d + 65536 * dv l + x * 65536 ^ (i + 1)
    rw [Nat.pow_succ, ← Nat.mul_assoc, ← Nat.mul_assoc]; omega
theorem dv_get_le : ∀ (l : List Nat) (i : Nat), l.getD i 0 * 65536 ^ i ≤ dv l
  | [], i => by simp
  | d :: l, 0 => by simp [dv]
  | d :: l, i + 1 => by
    have := dv_get_le l i
    show l.getD i 0 * 65536 ^ (i + 1) ≤ d + 65536 * dv l
    rw [Nat.pow_succ, ← Nat.mul_assoc]; omega
theorem dv_pos {l : List Nat} (h : l ≠ []) (hl : l.getLast h ≠ 0) : dv l ≠ 0 := by
  intro h0
  have h1 := dv_get_le l (l.length - 1)
  rw [h0] at h1
  have hlen : 0 < l.length := List.length_pos_iff.2 h
  have e : l.getD (l.length - 1) 0 = l.getLast h := by
    rw [List.getLast_eq_getElem, List.getD_eq_getElem?_getD, List.getElem?_eq_getElem (by omega)]; rfl
  rw [e] at h1
  have : 0 < 65536 ^ (l.length - 1) := Nat.pow_pos (by decide)
  have h2 : 0 < l.getLast h * 65536 ^ (l.length - 1) := Nat.mul_pos (by omega) this
  omega
theorem dv_nil_or {l : List Nat} (h : ∀ h : l ≠ [], l.getLast h ≠ 0) (h0 : dv l = 0) : l = [] := Decidable.byContradiction fun hn => dv_pos hn (h hn) h0
theorem dv_dropLast {l : List Nat} (h : l ≠ []) (hl : l.getLast h = 0) : dv l.dropLast = dv l := by
  have := dv_append l.dropLast [l.getLast h]
  rw [List.dropLast_concat_getLast] at this
  rw [this, hl]; simp [dv]

/-- The sum of so many digits. -/
def ds (f : Nat → Nat) : Nat → Nat
  | 0 => 0
  | k + 1 => ds f k + f k * 65536 ^ k
theorem ds_congr {f g : Nat → Nat} : ∀ {n : Nat}, (∀ k, k < n → f k = g k) → ds f n = ds g n
  | 0, _ => rfl
  | n + 1, h => by
    unfold ds
    rw [ds_congr (fun k hk => h k (by omega)), h n (by omega)]
theorem ds_lt {f : Nat → Nat} (h : ∀ k, f k < 65536) : ∀ n, ds f n < 65536 ^ n
  | 0 => by simp [ds]
  | n + 1 => by
    have h1 := ds_lt h n
    have h2 := h n
    unfold ds
    rw [Nat.pow_succ]
    have : f n * 65536 ^ n ≤ 65535 * 65536 ^ n := Nat.mul_le_mul_right _ (by omega)
    omega
theorem ds_succ' (f : Nat → Nat) : ∀ n, ds f (n + 1) = f 0 + 65536 * ds (fun k => f (k + 1)) n
  | 0 => by simp [ds]
  | n + 1 => by
    have := ds_succ' f n
    show ds f (n + 1) + f (n + 1) * 65536 ^ (n + 1) = f 0 + 65536 * (ds (fun k => f (k + 1)) n + f (n + 1) * 65536 ^ n)
    rw [this, Nat.pow_succ, Nat.mul_add, Nat.mul_left_comm 65536, Nat.mul_comm 65536 (65536 ^ n)]
    omega
theorem ds_list : ∀ (l : List Nat), ds (fun k => l.getD k 0) l.length = dv l
  | [] => rfl
  | d :: l => by
    show ds _ (l.length + 1) = _
    rw [ds_succ']
    have := ds_list l
    show d + 65536 * ds (fun k => l.getD k 0) l.length = _
    rw [this]; rfl
theorem ds_zero {f : Nat → Nat} {n : Nat} (h : ∀ k, k < n → f k = 0) : ds f n = 0 := by
  rw [ds_congr h]
  clear h
  induction n with
  | zero => rfl
  | succ n ih => unfold ds; rw [ih]; simp
theorem ds_add (f : Nat → Nat) (a : Nat) : ∀ b, ds f (a + b) = ds f a + 65536 ^ a * ds (fun k => f (a + k)) b
  | 0 => by simp [ds]
  | b + 1 => by
    show ds f (a + b) + f (a + b) * 65536 ^ (a + b) = ds f a + 65536 ^ a * (ds (fun k => f (a + k)) b + f (a + b) * 65536 ^ b)
    rw [ds_add f a b, Nat.mul_add, Nat.pow_add, Nat.mul_left_comm]; omega
/-- The digit of a place. -/
def digAt (l : List Nat) (E p : Int) : Nat := if p < E ∨ E + l.length ≤ p then 0 else l.getD (p - E).toNat 0
theorem digAt_lt {l : List Nat} (h : Dg l) (E p : Int) : digAt l E p < 65536 := by
  unfold digAt; split
  · decide
  · exact h.get _
theorem ds_digAt {l : List Nat} {E F : Int} {n : Nat} (h1 : F ≤ E) (h2 : E + l.length ≤ F + n) : ds (fun k => digAt l E (F + k)) n = 65536 ^ (E - F).toNat * dv l := by
  obtain ⟨a, ha⟩ : ∃ a : Nat, a = (E - F).toNat := ⟨_, rfl⟩
  obtain ⟨c, hc⟩ : ∃ c : Nat, c = n - a - l.length := ⟨_, rfl⟩
  have en : n = a + (l.length + c) := by omega
  rw [en, ds_add, ds_add, ← ha]
  rw [ds_zero (f := fun k => digAt l E (F + k)) (n := a) (fun k hk => by unfold digAt; rw [if_pos (by omega)])]
  rw [ds_zero (n := c) (fun k hk => by show digAt l E (F + _) = 0; unfold digAt; rw [if_pos (by omega)])]
  rw [ds_congr (g := fun k => l.getD k 0) (n := l.length) (fun k hk => by
    show digAt l E (F + ((a + k : Nat) : Int)) = _
    unfold digAt; rw [if_neg (by omega)]; congr 1; omega)]
  rw [ds_list]; simp
theorem ds_digAt_nil {E F : Int} {n : Nat} : ds (fun k => digAt [] E (F + k)) n = 0 := ds_zero fun k _ => by
  unfold digAt; split <;> simp
theorem p2_pow16 (n : Nat) : ((65536 ^ n : Nat) : Rat) = p2 (16 * n) := by
  have : (65536 : Nat) ^ n = 2 ^ (16 * n) := by rw [Nat.pow_mul]
  rw [this, ← p2_nat]; congr 1
/-- What is worth the digits of places from F on. -/
theorem ds_worth {l : List Nat} {E F : Int} {n : Nat} (h : l = [] ∨ F ≤ E ∧ E + l.length ≤ F + n) : (ds (fun k => digAt l E (F + k)) n : Rat) * p2 (16 * F) = (dv l : Rat) * p2 (16 * E) := by
  rcases h with rfl | ⟨h1, h2⟩
  · rw [ds_digAt_nil]; simp [dv]
  · rw [ds_digAt h1 h2, Rat.natCast_mul, p2_pow16]
    have : p2 (16 * E) = p2 (16 * ((E - F).toNat : Nat)) * p2 (16 * F) := by rw [← p2_add]; congr 1; omega
    rw [this]; grind
/-- The highest digit that differs decides. -/
theorem ds_less {f g : Nat → Nat} (hf : ∀ k, f k < 65536) {p n : Nat} (hp : p < n) (h : f p < g p) (he : ∀ k, p < k → k < n → f k = g k) : ds f n < ds g n := by
  obtain ⟨c, rfl⟩ : ∃ c, n = p + 1 + c := ⟨n - (p + 1), by omega⟩
  rw [ds_add f (p + 1) c, ds_add g (p + 1) c, ds_congr (f := fun k => f (p + 1 + k)) (g := fun k => g (p + 1 + k)) (fun k hk => he _ (by omega) (by omega))]
  refine Nat.add_lt_add_right ?_ _
  unfold ds
  have h1 := ds_lt hf p
  have h2 : (f p + 1) * 65536 ^ p ≤ g p * 65536 ^ p := Nat.mul_le_mul_right _ h
  rw [Nat.add_mul] at h2
  omega
/-- One step of a product's row. -/
theorem mul_step {l : List Nat} {i c a b : Nat} (hi : i < l.length) :
    dv (l.set i ((c + a * b + l.getD i 0) % 65536)) + (c + a * b + l.getD i 0) / 65536 * 65536 ^ (i + 1) = dv l + c * 65536 ^ i + a * b * 65536 ^ i := by
  have h1 := dv_set hi ((c + a * b + l.getD i 0) % 65536)
  have h2 := Nat.div_add_mod (c + a * b + l.getD i 0) 65536
  generalize (c + a * b + l.getD i 0) / 65536 = q at *
  generalize (c + a * b + l.getD i 0) % 65536 = m at *
  rw [Nat.pow_succ]
  generalize 65536 ^ i = P at *
  have h3 : (65536 * q + m) * P = (c + a * b + l.getD i 0) * P := by rw [h2]
  rw [Nat.add_mul, Nat.add_mul, Nat.add_mul, Nat.mul_assoc] at h3
  rw [Nat.mul_comm P 65536, Nat.mul_left_comm q]
  omega
theorem mul_carry {c a b d : Nat} (hc : c < 65536) (ha : a < 65536) (hb : b < 65536) (hd : d < 65536) : c + a * b + d < 4294967296 ∧ (c + a * b + d) / 65536 < 65536 := by
  have : a * b ≤ 65535 * 65535 := Nat.mul_le_mul (by omega) (by omega)
  omega
/-- One step of a shift. -/
theorem shift_step {l : List Nat} {i d r : Nat} (hi : i + 1 < l.length) (hl : Dg l) (hd : d < 65536) (hr : r < 16) (h0 : l.getD i 0 < 2 ^ r) (hz : ∀ k, i < k → l.getD k 0 = 0) :
    dv ((l.set i (l.getD i 0 + d * 2 ^ r % 65536)).set (i + 1) (d * 2 ^ r / 65536)) = dv l + d * 2 ^ r * 65536 ^ i ∧ Dg ((l.set i (l.getD i 0 + d * 2 ^ r % 65536)).set (i + 1) (d * 2 ^ r / 65536)) ∧
    ((l.set i (l.getD i 0 + d * 2 ^ r % 65536)).set (i + 1) (d * 2 ^ r / 65536)).getD (i + 1) 0 < 2 ^ r ∧ ∀ k, i + 1 < k → ((l.set i (l.getD i 0 + d * 2 ^ r % 65536)).set (i + 1) (d * 2 ^ r / 65536)).getD k 0 = 0 := by
  have e : 2 ^ r * 2 ^ (16 - r) = 65536 := by rw [← Nat.pow_add, show r + (16 - r) = 16 by omega]
  have hg : 0 < 2 ^ r := Nat.two_pow_pos r
  have hh : 0 < 2 ^ (16 - r) := Nat.two_pow_pos _
  have hm : l.getD i 0 + d * 2 ^ r % 65536 < 65536 := by
    have h1 : d * 2 ^ r % 65536 = 2 ^ r * (d % 2 ^ (16 - r)) := by rw [← e, Nat.mul_comm d, Nat.mul_mod_mul_left]
    have h2 := Nat.mod_lt d hh
    have h3 : 2 ^ r * (d % 2 ^ (16 - r) + 1) ≤ 2 ^ r * 2 ^ (16 - r) := Nat.mul_le_mul_left _ h2
    rw [Nat.mul_add, e] at h3
    omega
  have hq : d * 2 ^ r / 65536 < 2 ^ r := by
    rw [Nat.div_lt_iff_lt_mul (by decide), Nat.mul_comm]
    exact Nat.mul_lt_mul_of_pos_left hd hg
  have hr2 : 2 ^ r ≤ 32768 := by
    have := Nat.pow_le_pow_right (n := 2) (by decide) (show r ≤ 15 by omega)
    omega
  refine ⟨?_, (hl.set _ hm).set _ (by omega), ?_, ?_⟩
  · have s1 := dv_set (l := l) (i := i) (by omega) (l.getD i 0 + d * 2 ^ r % 65536)
    have s2 := dv_set (l := l.set i (l.getD i 0 + d * 2 ^ r % 65536)) (i := i + 1) (by simpa using hi) (d * 2 ^ r / 65536)
    have e2 : (l.set i (l.getD i 0 + d * 2 ^ r % 65536)).getD (i + 1) 0 = 0 := by
      rw [List.getD_eq_getElem?_getD, List.getElem?_set_ne (by omega), ← List.getD_eq_getElem?_getD]
      exact hz _ (by omega)
    rw [e2] at s2
    have hdm := Nat.div_add_mod (d * 2 ^ r) 65536
    generalize d * 2 ^ r / 65536 = q at *
    generalize d * 2 ^ r % 65536 = m at *
    generalize d * 2 ^ r = T at *
    rw [Nat.pow_succ] at s2
    subst hdm
    rw [Nat.add_mul, Nat.mul_assoc, Nat.mul_left_comm]
    rw [Nat.add_mul] at s1
    rw [Nat.mul_comm (65536 ^ i) 65536, Nat.mul_left_comm q] at s2
    rw [Nat.mul_left_comm q] 
    omega
  · rw [List.getD_eq_getElem?_getD, List.getElem?_set, if_pos rfl, if_pos (by simpa using hi)]
    exact hq
  · intro k hk
    rw [List.getD_eq_getElem?_getD, List.getElem?_set_ne (by omega), List.getElem?_set_ne (by omega), ← List.getD_eq_getElem?_getD]
    exact hz _ (by omega)
end Sedge
end
section
/-
  Slices of digits: how they read; blocks of them that may be written; appends, make.
-/
set_option linter.unusedSimpArgs false
set_option linter.unusedVariables false
namespace Sedge
open Go Go.RowKit

theorem Grew.same_o {X : World} {o : Array Obj} {n n' : Nat} : Grew (Sedge.ext X o n) (Sedge.ext X o n') := ⟨#[], n', by simp⟩
theorem Grew.app_o {X : World} {o o' : Array Obj} {n n' : Nat} : Grew (Sedge.ext X o n) (Sedge.ext X (o ++ o') n') := ⟨o', n', by simp⟩
/-- The slice v reads, in w, as the digits l. -/
def NS (w : World) (v : Value) (l : List Nat) : Prop :=
  ∃ a cap, v = .slice a l.length cap ∧ l.length ≤ cap ∧ ∀ i, i < l.length → ∃ blk o, a = some ⟨blk, o, none⟩ ∧ w.cell? ⟨blk, o + i, none⟩ = some (.int .i64 (l.getD i 0 : Nat))
theorem NS.shape {w : World} {v : Value} {l : List Nat} (h : NS w v l) : ∃ a cap, v = .slice a l.length cap := by
  obtain ⟨a, cap, rfl, _⟩ := h; exact ⟨a, cap, rfl⟩
theorem NS.at {w : World} {a : Option Addr} {n cap : Nat} {l : List Nat} (h : NS w (.slice a n cap) l) : n = l.length ∧ n ≤ cap ∧ (0 < l.length → ∃ blk o, a = some ⟨blk, o, none⟩ ∧ blk < w.heap.size ∧
      ∀ i, i < l.length → w.cell? ⟨blk, o + i, none⟩ = some (.int .i64 (l.getD i 0 : Nat))) := by
  obtain ⟨a', cap', e, h0, hc⟩ := h
  cases e
  refine ⟨rfl, h0, fun hn => ?_⟩
  obtain ⟨blk, o, rfl, h1⟩ := hc 0 hn
  refine ⟨blk, o, rfl, World.block_lt_of_cell? w _ h1, fun i hi => ?_⟩
  obtain ⟨blk', o', he, h1'⟩ := hc i hi
  cases he
  exact h1'
theorem NS.open {w : World} {v : Value} {l : List Nat} (h : NS w v l) (hn : 0 < l.length) :
    ∃ blk o cap, v = .slice (some ⟨blk, o, none⟩) l.length cap ∧ blk < w.heap.size ∧ l.length ≤ cap ∧
      ∀ i, i < l.length → w.cell? ⟨blk, o + i, none⟩ = some (.int .i64 (l.getD i 0 : Nat)) := by
  obtain ⟨a, cap, rfl⟩ := h.shape
  obtain ⟨blk, o, rfl, h1, h2⟩ := h.at.2.2 hn
  exact ⟨blk, o, cap, rfl, h1, h.at.2.1, h2⟩
theorem NS.same {w w' : World} {v : Value} {l : List Nat} (h : NS w v l) (hs : ∀ a : Addr, a.block < w.heap.size → w'.cell? a = w.cell? a) : NS w' v l := by
  obtain ⟨a, cap, hv, h0, hc⟩ := h
  refine ⟨a, cap, hv, h0, fun i hi => ?_⟩
  obtain ⟨blk, o, he, h1⟩ := hc i hi
  exact ⟨blk, o, he, by rw [hs _ (World.block_lt_of_cell? w _ h1)]; exact h1⟩
theorem NS.below {w w' : World} {v : Value} {l : List Nat} (h : NS w v l) (hb : Below w.heap.size w w') : NS w' v l := h.same fun _ ha => hb.cell ha
theorem NS.grew {w w' : World} {v : Value} {l : List Nat} (h : NS w v l) (g : Grew w w') : NS w' v l := h.below g.below
theorem NS.ext {w : World} {v : Value} {l : List Nat} (h : NS w v l) (o : Array Obj) (n : Nat) : NS (ext w o n) v l := h.grew ⟨_, _, rfl⟩
theorem NS.alloc {w : World} {v : Value} {l : List Nat} (h : NS w v l) (o : Obj) : NS (w.alloc o) v l := h.grew ((Grew.refl _).alloc o)
theorem NS.nil (w : World) : NS w (.slice none 0 0) [] := ⟨none, 0, rfl, Nat.le_refl _, fun i hi => by simp at hi⟩
/-- Without the first. -/
theorem NS.tail {w : World} {blk o n cap d : Nat} {l : List Nat} (h : NS w (.slice (some ⟨blk, o, none⟩) n cap) (d :: l)) : NS w (.slice (some ⟨blk, o + 1, none⟩) (n - 1) (cap - 1)) l := by
  obtain ⟨a, c, e, h0, hc⟩ := h
  cases e
  refine ⟨_, _, rfl, by simp at h0; omega, fun i hi => ?_⟩
  obtain ⟨blk', o', he, h1⟩ := hc (i + 1) (by simp; omega)
  cases he
  exact ⟨blk, o + 1, rfl, by rw [show o + 1 + i = o + (i + 1) by omega]; exact h1⟩
theorem NS.tail' {w : World} {blk o n cap d : Nat} {l : List Nat} (h : NS w (.slice (some ⟨blk, o, none⟩) n cap) (d :: l)) : NS w (.slice (if cap = 1 then some ⟨blk, o, none⟩ else some ⟨blk, o + 1, none⟩) l.length (cap - 1)) l := by
  have hn := h.at.1
  have hc := h.at.2.1
  have e : n - 1 = l.length := by rw [hn]; simp
  have h1 := h.tail
  rw [e] at h1
  simp at hn
  by_cases h0 : cap = 1
  · rw [if_pos h0]
    have : l = [] := List.length_eq_zero_iff.1 (by omega)
    subst this
    exact ⟨_, _, rfl, Nat.zero_le _, fun i hi => by simp at hi⟩
  · rw [if_neg h0]; exact h1
theorem NS.dropLast {w : World} {a : Option Addr} {n cap : Nat} {l : List Nat} (h : NS w (.slice a n cap) l) : NS w (.slice a (n - 1) cap) l.dropLast := by
  obtain ⟨a', c, e, h0, hc⟩ := h
  cases e
  refine ⟨a, cap, by simp, by simp; omega, fun i hi => ?_⟩
  have hi' : i < l.length - 1 := by simpa using hi
  obtain ⟨blk', o', he, h1⟩ := hc i (by omega)
  refine ⟨blk', o', he, ?_⟩
  rw [h1]
  congr 2
  rw [List.getD_eq_getElem?_getD, List.getD_eq_getElem?_getD, List.getElem?_dropLast, if_pos hi']

/-- The cells of digits. -/
def ia (l : List Nat) : Array Value := (l.map fun d : Nat => Value.int .i64 d).toArray
@[simp] theorem ia_size (l : List Nat) : (ia l).size = l.length := by simp [ia]
theorem ia_get (l : List Nat) {i : Nat} (h : i < l.length) : (ia l)[i]? = some (.int .i64 (l.getD i 0 : Nat)) := by
  simp [ia, List.getD_eq_getElem?_getD, h]
theorem ia_set (l : List Nat) (i d : Nat) : (ia l).setIfInBounds i (.int .i64 (d : Nat)) = ia (l.set i d) := by
  unfold ia; rw [List.setIfInBounds_toArray, List.map_set]
/-- Block b holds the digits l and no more; it may be written. -/
def IB (w : World) (b : Nat) (l : List Nat) : Prop := ∃ e, w.heap[b]? = some (.cells (ia l) e (0, 0))
section
variable {w : World} {b : Nat} {l : List Nat}
theorem IB.lt (h : IB w b l) : b < w.heap.size := by
  obtain ⟨e, h1⟩ := h
  exact (Array.getElem?_eq_some_iff.1 h1).1
theorem IB.notFrozen (h : IB w b l) (i : Nat) : w.frozen? ⟨b, i, none⟩ = false := by
  obtain ⟨e, h1⟩ := h
  unfold World.frozen?
  simp only [h1]
  simp
theorem IB.self (h : IB w b l) : upd w b (ia l) = w := by
  obtain ⟨e, h1⟩ := h
  unfold upd
  cases w with | mk hp tp dr os' out => ?_
  simp only [World.mk.injEq, true_and, and_true] at *
  apply Array.ext_getElem?
  intro i
  rw [Array.getElem?_modify]
  split
  · rename_i he; subst he; rw [h1]; rfl
  · rfl
theorem IB.cells (h : IB w b l) (cs : Array Value) (i : Nat) : (upd w b cs).cell? ⟨b, i, none⟩ = cs[i]? := by
  obtain ⟨e, h1⟩ := h
  unfold World.cell?
  simp only [block_upd h1]
  simp
theorem IB.get (h : IB w b l) {l' : List Nat} {i : Nat} (hi : i < l'.length) : (upd w b (ia l')).cell? ⟨b, i, none⟩ = some (.int .i64 (l'.getD i 0 : Nat)) := by rw [h.cells, ia_get _ hi]
theorem IB.mk' (h : IB w b l) (l' : List Nat) (o : Array Obj) (n : Nat) : IB (Sedge.ext (upd w b (ia l')) o n) b l' := by
  have hlt := h.lt
  obtain ⟨e, h1⟩ := h
  exact ⟨e, by rw [block_ext (by simpa using hlt), block_upd h1]⟩
theorem IB.ns (h : IB w b l) {cap : Nat} (hc : l.length ≤ cap) : NS w (.slice (some ⟨b, 0, none⟩) l.length cap) l := by
  obtain ⟨e, h1⟩ := h
  refine ⟨_, cap, rfl, hc, fun i hi => ⟨b, 0, rfl, ?_⟩⟩
  unfold World.cell?
  simp only [h1, Nat.zero_add]
  simpa using ia_get l hi
theorem IB.same {w' : World} (h : IB w b l) (hs : w'.heap[b]? = w.heap[b]?) : IB w' b l := by
  obtain ⟨e, h1⟩ := h
  exact ⟨e, hs.trans h1⟩
theorem IB.grew {w' : World} (h : IB w b l) (g : Grew w w') : IB w' b l := h.same (g.below.block b h.lt)
theorem IB.ext (h : IB w b l) (o : Array Obj) (n : Nat) : IB (Sedge.ext w o n) b l := h.grew ⟨_, _, rfl⟩
end
theorem NS.upd_ne {w : World} {v : Value} {l : List Nat} (h : NS w v l) {b : Nat} (hn : NotIn b v) (cs : Array Value) : NS (upd w b cs) v l := by
  obtain ⟨a, cap, hv, h0, hc⟩ := h
  refine ⟨a, cap, hv, h0, fun i hi => ?_⟩
  obtain ⟨blk, o, he, h1⟩ := hc i hi
  refine ⟨blk, o, he, ?_⟩
  rw [cell_upd_ne (by exact hn ⟨blk, o, none⟩ _ _ (by rw [hv, he]))]
  exact h1
/-- A slice that is there in w is none of a block that is not. -/
theorem NS.notIn {w : World} {v : Value} {l : List Nat} (h : NS w v l) (hl : l ≠ []) {b : Nat} (hb : w.heap.size ≤ b) : NotIn b v := by
  intro a n c e
  obtain ⟨blk, o, cap, e2, hlt, _⟩ := h.open (List.length_pos_iff.2 hl)
  rw [e] at e2
  have e3 := (Value.slice.inj e2).1
  cases e3
  show blk ≠ b
  omega

/-- The slice v of ours owns the digits l. -/
def OwnN (w : World) (B : Nat) (v : Value) (l : List Nat) : Prop := w.ownsRow B 3 1 v l.length (l.map fun d : Nat => Value.int .i64 d)
theorem OwnN.nil (w : World) (B : Nat) : OwnN w B (.slice none 0 0) [] := ⟨by simp, .inl ⟨rfl, rfl⟩⟩
theorem OwnN.grew {w w' : World} {B : Nat} {v : Value} {l : List Nat} (h : OwnN w B v l) (g : Grew w w') : OwnN w' B v l := by
  obtain ⟨h0, h1⟩ := h
  refine ⟨h0, ?_⟩
  rcases h1 with h1 | ⟨gg, cap, cur, hv, hB, hh, r⟩
  · exact .inl h1
  · have hlt : gg < w.heap.size := by
      rcases Nat.lt_or_ge gg w.heap.size with h | h
      · exact h
      · rw [Array.getElem?_eq_none h] at hh; cases hh
    exact .inr ⟨gg, cap, cur, hv, hB, by rw [g.below.block gg hlt]; exact hh, r⟩
theorem OwnN.ns {w : World} {B : Nat} {v : Value} {l : List Nat} (h : OwnN w B v l) : NS w v l := by
  obtain ⟨_, h1⟩ := h
  rcases h1 with ⟨rfl, h1⟩ | ⟨g, cap, cur, rfl, _, hh, hn, hm, hsz, ht⟩
  · have : l = [] := List.length_eq_zero_iff.1 h1
    subst this
    exact NS.nil w
  · refine ⟨some ⟨g, 0, none⟩, cap, rfl, hn, fun i hi => ⟨g, 0, rfl, ?_⟩⟩
    rw [Nat.mul_one] at ht
    have := take_getElem? (i := i) ht (by simpa using hi)
    simp only [World.cell?, hh, Nat.zero_add, Option.isSome_none, Bool.false_eq_true, if_false]
    rw [← Array.getElem?_toList, this]
    simp [List.getD_eq_getElem?_getD, hi]
theorem OwnN.block {w : World} {B : Nat} {v : Value} {l : List Nat} (h : OwnN w B v l) : ∀ k, v.ownBlock = some k → B ≤ k := by
  obtain ⟨_, h1⟩ := h
  intro k hk
  rcases h1 with ⟨rfl, _⟩ | ⟨g, cap, cur, rfl, hB, _⟩
  · simp [Value.ownBlock] at hk
  · simp [Value.ownBlock] at hk; omega
section
variable {P : Program} {ops : Array Oper} {rest : List Oper} {o : Oper} {a : Act} {Q : Exit → Act → World → Prop}
theorem append1_n {t e' : TypeId} {z0 : Value} (und : P.underlying t = some (.slice 3)) (info : (P.info? 3).map (fun i => (i.zero, i.size, i.bytes)) = some (some z0, 1, 8)) (hz0 : z0.cells.size = 1)
    {W w : World} (hW : Grew W w) {v : Value} {l : List Nat} (hown : OwnN w W.heap.size v l) {d : Nat} {di : Int} (hd : di = (d : Nat))
    (hlen : l.length < 17592186044415) (s x : Operand) (hg : o.guard = none)
    (ho : o.op = .call { callee := .builtin .append, args := #[s, x], argTypes := #[t, t] }) (hs : a.eval s = v) {k : Nat} (hk : k = w.heap.size) (hx : a.eval x = .slice (some ⟨k, 0, none⟩) 1 1)
    (h : ∀ v' oo nn, OwnN (ext W oo nn) W.heap.size v' (l ++ [d]) → wpList P ops Q rest (a.put o.dst v') (ext W oo nn)) :
    wpList P ops Q (o :: rest) a (w.alloc (.cells #[.int .i64 di] e')) := by
  subst hd
  refine append1_v und info hz0 hW (xs := l.map fun d : Nat => Value.int .i64 d) (by simpa [OwnN] using hown) rfl (by simpa using hlen) s x hg ho hs hk hx ?_
  intro v' oo nn h1 _
  exact h v' oo nn (by simpa [OwnN] using h1)
/-- 'make([]int, n)'. -/
theorem make_n {t : TypeId} (und : P.underlying t = some (.slice 3)) (info : (P.info? 3).map (fun i => (i.zero, i.size, i.bytes)) = some (some (.int .i64 0), 1, 8)) {W w : World} (hW : Grew W w) (x c : Operand) (hg : o.guard = none) (hop : o.op = Op.makeSlice t x c) (n : Nat) {L : Int} (hL : L = n) (hl : a.eval x = .int .i64 L) (hc : a.eval c = .int .i64 L)
    (hn : n ≤ 17592186044415)
    (h : ∀ oo nn k, W.heap.size ≤ k → IB (ext W oo nn) k (List.replicate n 0) → wpList P ops Q rest (a.put o.dst (.slice (some ⟨k, 0, none⟩) n n)) (ext W oo nn)) :
    wpList P ops Q (o :: rest) a w := by
  obtain ⟨i0, hi, hz⟩ := Option.map_eq_some_iff.1 info
  simp only [Prod.mk.injEq] at hz
  obtain ⟨hz0, hz1, hz2⟩ := hz
  refine wpList_make_full w hg x c t hop W.heap.size 3 i0 (.int .i64 0) 1 und hi hz0 hz1 .i64 .i64 L L n hl hc hL hL (by rw [hz2]; omega) (by simp [maxLen]; omega) hW.below.size ?_
  intro w' ho hgr
  obtain ⟨oo, nn, rfl⟩ := grew_grown hW hgr (fun k hk => by cases hk)
  refine h oo nn _ hW.below.size ?_
  obtain ⟨_, h1⟩ := ho
  rcases h1 with ⟨h1, _⟩ | ⟨g, cap, cur, he, _, hh, _, _, hsz, ht⟩
  · cases h1
  · cases he
    refine ⟨3, ?_⟩
    rw [hh]
    congr 2
    apply Array.toList_inj.1
    have e0 : cur.toList.length = n * 1 := by simpa using hsz
    rw [List.take_of_length_le (by omega)] at ht
    rw [ht]
    apply List.ext_getElem?
    intro k
    simp [madeCells, Value.cells, Nat.mod_one, ia]
    by_cases hk : k < n <;> simp [hk]
end
end Sedge
end
section
/-
  Contracts: the reference's digits (layer 2): floor, power.
-/
set_option linter.unusedSimpArgs false
set_option linter.unusedVariables false
open Go Go.RowKit Sedge
namespace Go.Proofs.Ytcmggfpcbijcjaa
theorem iinfoN : (Try.prog.info? 3).map (fun i => (i.zero, i.size, i.bytes)) = some (some (Value.int .i64 0), 1, 8) := by kernel_rfl
theorem iundN : Try.prog.underlying 30 = some (.slice 3) := by kernel_rfl
theorem tmod16 (k : Int) : k.tmod 16 = if 0 ≤ k then k % 16 else -((-k) % 16) := by
  split
  · rename_i h; exact Int.tmod_eq_emod_of_nonneg h
  · rename_i h
    have : k.tmod 16 = -((-k).tmod 16) := by rw [Int.neg_tmod, Int.neg_neg]
    rw [this, Int.tmod_eq_emod_of_nonneg (by omega)]
theorem floor_arith (k : Int) : -16 < k.tmod 16 ∧ k.tmod 16 < 16 ∧ (k.tmod 16 + 16).tmod 16 = k % 16 ∧ (k - k % 16).tdiv 16 = k / 16 := by
  have h := tmod16 k
  have hb : -16 < k.tmod 16 ∧ k.tmod 16 < 16 := by rw [h]; split <;> omega
  have e1 : (k.tmod 16 + 16).tmod 16 = (k.tmod 16 + 16) % 16 := Int.tmod_eq_emod_of_nonneg (by omega)
  have e2 : (k - k % 16).tdiv 16 = k / 16 := by
    rw [show k - k % 16 = k / 16 * 16 by omega, Int.mul_tdiv_cancel _ (by decide)]
  refine ⟨hb.1, hb.2, ?_, e2⟩
  rw [e1, h]
  split <;> omega
set_option maxRecDepth 100000 in
set_option maxHeartbeats 1000000 in
theorem floor_any (k : Int) (w : World) (hk : -1000000 ≤ k ∧ k ≤ 1000000) : Calls Try.prog 124 #[.int .i64 k] w (fun e w' => e = .returned (.tuple #[.int .i64 (k / 16), .int .i64 (k % 16)]) ∧ w' = w) := by
  obtain ⟨hb1, hb2, h1, h2⟩ := floor_arith k
  obtain ⟨R, hR⟩ : ∃ R, R = k % 16 := ⟨_, rfl⟩
  obtain ⟨Q, hQ⟩ : ∃ Q, Q = k / 16 := ⟨_, rfl⟩
  rw [← hR] at h1 h2 ⊢
  rw [← hQ] at h2 ⊢
  have a1 : IntKind.i64.wrap (k.tmod 16 + 16) = k.tmod 16 + 16 := IntWalk.i64_in _ (by omega)
  have a2 : IntKind.i64.wrap (k - R) = k - R := IntWalk.i64_in _ (by omega)
  have a3 : IntKind.i64.wrap Q = Q := IntWalk.i64_in _ (by omega)
  clear hR hQ
  go_enter Try.func124, Try.ntmps124
  go_wp2
  refine bodyPost_ret (v := .tuple #[.int .i64 Q, .int .i64 R]) (by simp [results, Try.results124, go_sem, *]) rfl ?_
  exact ⟨rfl, rfl⟩
theorem pow_le16 {j : Nat} (h : j ≤ 16) : 2 ^ j ≤ 65536 := Nat.pow_le_pow_right (n := 2) (by decide) h
set_option maxRecDepth 100000 in
set_option maxHeartbeats 1000000 in
theorem power_any (k : Nat) (w : World) (hk : k ≤ 16) : Calls Try.prog 125 #[.int .i64 k] w (fun e w' => e = .returned (.int .i64 ((2 ^ k : Nat) : Int)) ∧ w' = w) := by
  go_enter Try.func125, Try.ntmps125
  go_wp2
  go_loopw [3, 4] (fun c d wr => ∃ j : Nat, j ≤ k ∧ c = .int .i64 ((2 ^ j : Nat) : Int) ∧ d = .int .i64 j ∧ wr = w) (fun _ d _ => k - (intOf d).toNat)
  case atStart => exact ⟨0, Nat.zero_le _, rfl, rfl, rfl⟩
  case round =>
    obtain ⟨j, hj, rfl, rfl, rfl⟩ := hrel
    have hp := pow_le16 (Nat.le_trans hj hk)
    have hs : 2 ^ (j + 1) = 2 ^ j * 2 := Nat.pow_succ 2 j
    generalize hP : 2 ^ j = P at *
    by_cases hlt : j < k
    · have HS := hid hs
      clear hs
      go_wp2
      go_roundw
      case rel => exact ⟨j + 1, by omega, by rw [HS.out]; go_num, by go_num, by trivial⟩
      case measure => simp [intOf]; omega
    · have e : j = k := by omega
      subst e
      go_wp2
      go_ret
      exact ⟨ret_int (by rw [hP]), rfl⟩
/-- A number of the reference: its places lie from lo up to hi. -/
def DV (w : World) (v : Value) (q : Rat) (lo hi : Int) : Prop :=
  ∃ (neg : Bool) (L : Value) (E : Int) (l : List Nat), v = .agg #[.bool neg, L, .int .i64 E] ∧ NS w L l ∧ Dg l ∧ q = dat neg (dv l) (16 * E) ∧ (dv l = 0 → l = []) ∧ (l = [] → E = 0 ∧ neg = false) ∧ (l ≠ [] → lo ≤ E ∧ E + l.length ≤ hi)
theorem DV.grew {w w' : World} {v : Value} {q : Rat} {lo hi : Int} (h : DV w v q lo hi) (g : Grew w w') : DV w' v q lo hi := by
  obtain ⟨neg, L, E, l, h1, h2, h3⟩ := h
  exact ⟨neg, L, E, l, h1, h2.grew g, h3⟩
theorem DV.mono {w : World} {v : Value} {q : Rat} {lo hi lo' hi' : Int} (h : DV w v q lo hi) (h1 : lo' ≤ lo) (h2 : hi ≤ hi') : DV w v q lo' hi' := by
  obtain ⟨neg, L, E, l, a1, a2, a3, a4, a5, a6, a7⟩ := h
  exact ⟨neg, L, E, l, a1, a2, a3, a4, a5, a6, fun h => by have := a7 h; omega⟩
theorem DV.shape {w : World} {v : Value} {q : Rat} {lo hi : Int} (h : DV w v q lo hi) : ∃ ng a n c E, v = .agg #[.bool ng, .slice a n c, .int .i64 E] := by
  obtain ⟨ng, L, E, l, rfl, hN, _⟩ := h
  obtain ⟨a, c, rfl⟩ := hN.shape
  exact ⟨ng, a, _, c, E, rfl⟩
theorem DV.ext {w : World} {v : Value} {q : Rat} {lo hi : Int} (h : DV w v q lo hi) (o : Array Obj) (n : Nat) : DV (Sedge.ext w o n) v q lo hi := h.grew ⟨_, _, rfl⟩
def lenOf : Value → Nat
  | .slice _ n _ => n
  | _ => 0
def dLen : Value → Nat
  | .agg a => match a[1]? with
    | some L => lenOf L
    | none => 0
  | _ => 0
/-- The block of its digits. -/
def dBlock : Value → Option Nat
  | .agg a => match a[1]? with
    | some L => L.ownBlock
    | none => none
  | _ => none
theorem _root_.Sedge.NS.setCell {w : World} {v : Value} {l : List Nat} (h : NS w v l) {b i : Nat} (hb : ∀ k, v.ownBlock = some k → k ≠ b) (u : Value) : NS (w.setCell ⟨b, i, none⟩ u) v l := by
  obtain ⟨a, cap, hv, h0, hc⟩ := h
  refine ⟨a, cap, hv, h0, fun j hj => ?_⟩
  obtain ⟨blk, o, he, h1⟩ := hc j hj
  refine ⟨blk, o, he, ?_⟩
  rw [← h1]
  have hne : blk ≠ b := hb blk (by rw [hv, he]; rfl)
  unfold World.cell?
  show (match (w.heap.modify b _)[blk]? with | some (.cells cs _ _) => _ | _ => _) = _
  rw [Array.getElem?_modify, if_neg (by omega)]
  rfl
theorem DV.setCell {w : World} {v : Value} {q : Rat} {lo hi : Int} (h : DV w v q lo hi) {b i : Nat} (hb : ∀ k, dBlock v = some k → k ≠ b) (u : Value) : DV (w.setCell ⟨b, i, none⟩ u) v q lo hi := by
  obtain ⟨neg, L, E, l, rfl, h2, h3⟩ := h
  exact ⟨neg, L, E, l, rfl, h2.setCell (fun k hk => hb k hk) u, h3⟩
theorem DV.ext_set {w : World} {v : Value} {q : Rat} {lo hi : Int} {o : Array Obj} {n : Nat} (h : DV (Sedge.ext w o n) v q lo hi) {b i : Nat} (h1 : b < w.heap.size) (hb : ∀ k, dBlock v = some k → k ≠ b) (u : Value) : DV (Sedge.ext (w.setCell ⟨b, i, none⟩ u) o n) v q lo hi := by
  rw [← setCell_ext h1]
  exact h.setCell hb u
theorem DV.ext_set3 {w : World} {v : Value} {q : Rat} {lo hi : Int} {o : Array Obj} {n : Nat} (h : DV (Sedge.ext w o n) v q lo hi) {b i j k : Nat} (h1 : b < w.heap.size) (hb : ∀ k, dBlock v = some k → k ≠ b) (x y z : Value) :
    DV (Sedge.ext (((w.setCell ⟨b, i, none⟩ x).setCell ⟨b, j, none⟩ y).setCell ⟨b, k, none⟩ z) o n) v q lo hi :=
  ((h.ext_set h1 hb x).ext_set (by simpa [size_setCell'] using h1) hb y).ext_set (by simpa [size_setCell'] using h1) hb z
theorem DV.set3 {w : World} {v : Value} {q : Rat} {lo hi : Int} (h : DV w v q lo hi) {b i j k : Nat} (hb : ∀ k, dBlock v = some k → k ≠ b) (x y z : Value) :
    DV (((w.setCell ⟨b, i, none⟩ x).setCell ⟨b, j, none⟩ y).setCell ⟨b, k, none⟩ z) v q lo hi := ((h.setCell hb x).setCell hb y).setCell hb z
theorem grew_set3 {w X : World} (g : Grew w X) {b i j k : Nat} (hb : w.heap.size ≤ b) (x y z : Value) (o : Array Obj) (n : Nat) : Grew w (Sedge.ext (((X.setCell ⟨b, i, none⟩ x).setCell ⟨b, j, none⟩ y).setCell ⟨b, k, none⟩ z) o n) :=
  (((g.setCell (a := ⟨b, i, none⟩) hb x).setCell (a := ⟨b, j, none⟩) hb y).setCell (a := ⟨b, k, none⟩) hb z).ext _ _
theorem dat_shift (neg : Bool) (l : List Nat) (E : Int) : dat neg (dv (0 :: l)) (16 * E) = dat neg (dv l) (16 * (E + 1)) := by
  unfold dat
  have e1 : ((dv (0 :: l) : Nat) : Rat) = p2 16 * (dv l : Rat) := by
    show ((0 + 65536 * dv l : Nat) : Rat) = _
    rw [Nat.zero_add, Rat.natCast_mul, show p2 16 = ((65536 : Nat) : Rat) by decide +kernel]
  have e2 : p2 (16 * (E + 1)) = p2 16 * p2 (16 * E) := by rw [← p2_add]; congr 1; omega
  rw [e1, e2]; grind
end Go.Proofs.Ytcmggfpcbijcjaa
end
section
/-
  Boxes: blocks of cells that may be written; numbers of the reference whose digits lie elsewhere.
-/
set_option linter.unusedSimpArgs false
set_option linter.unusedVariables false
open Go Go.RowKit Sedge
namespace Go.Proofs.Ytcmggfpcbijcjaa
def Box (w : World) (p : Nat) (cs : Array Value) : Prop := ∃ e, w.heap[p]? = some (.cells cs e (0, 0))
section
variable {w w' : World} {p q : Nat} {cs : Array Value}
theorem Box.lt (h : Box w p cs) : p < w.heap.size := by
  obtain ⟨e, h⟩ := h
  exact (Array.getElem?_eq_some_iff.1 h).1
theorem Box.cell (h : Box w p cs) (i : Nat) : w.cell? ⟨p, i, none⟩ = cs[i]? := by
  obtain ⟨e, h⟩ := h
  unfold World.cell?
  simp only [h]
  rfl
theorem Box.frozen (h : Box w p cs) (i : Nat) : w.frozen? ⟨p, i, none⟩ = false := by
  obtain ⟨e, h⟩ := h
  unfold World.frozen?
  simp only [h]
  simp
theorem Box.grew (h : Box w p cs) (g : Grew w w') : Box w' p cs := by
  have hl := h.lt
  obtain ⟨e, h⟩ := h
  exact ⟨e, by rw [g.below.block p hl]; exact h⟩
theorem Box.new (w : World) (cs : Array Value) (e : TypeId) : Box (w.alloc (.cells cs e)) w.heap.size cs := ⟨e, by show (w.heap.push _)[w.heap.size]? = _; simp⟩
theorem Box.new' {w : World} {cs : Array Value} {e : TypeId} {n : Nat} (hn : n = w.heap.size) : Box (w.alloc (.cells cs e)) n cs := by subst hn; exact Box.new w cs e
theorem Box.upd_self (h : Box w p cs) (cs' : Array Value) : Box (upd w p cs') p cs' := by
  obtain ⟨e, h⟩ := h
  exact ⟨e, block_upd h⟩
theorem Box.upd_ne (h : Box w p cs) (hn : p ≠ q) (cs' : Array Value) : Box (upd w q cs') p cs := by
  obtain ⟨e, h⟩ := h
  exact ⟨e, by rw [block_upd_ne hn]; exact h⟩
theorem Box.self (h : Box w p cs) : upd w p cs = w := by
  obtain ⟨e, h1⟩ := h
  unfold upd
  cases w with | mk hp tp dr os' out => ?_
  simp only [World.mk.injEq, true_and, and_true] at *
  apply Array.ext_getElem?
  intro i
  rw [Array.getElem?_modify]
  split
  · rename_i he; subst he; rw [h1]; rfl
  · rfl
theorem Box.set3 (h : Box w p cs) (hs : cs.size = 3) (x y z : Value) : ((w.setCell ⟨p, 0, none⟩ x).setCell ⟨p, 1, none⟩ y).setCell ⟨p, 2, none⟩ z = upd w p #[x, y, z] := by
  have e : w = upd w p cs := h.self.symm
  rw [e, setCell_upd, setCell_upd, setCell_upd, upd_upd]
  congr 1
  match cs, hs with
  | ⟨[a, b, c]⟩, _ => rfl
theorem Box.set3_ext (h : Box w p cs) (hs : cs.size = 3) (x y z : Value) (o : Array Obj) (n : Nat) : Sedge.ext (((w.setCell ⟨p, 0, none⟩ x).setCell ⟨p, 1, none⟩ y).setCell ⟨p, 2, none⟩ z) o n = upd (Sedge.ext w o n) p #[x, y, z] := by
  rw [h.set3 hs, upd_ext h.lt]
end
/-- Its digits lie in none of these blocks. -/
def dNot (v : Value) (S : List Nat) : Prop := ∀ k, dBlock v = some k → dLen v ≠ 0 → k ∉ S
theorem dNot.mono {v : Value} {S T : List Nat} (h : dNot v S) (hs : ∀ k, k ∈ T → k ∈ S) : dNot v T := fun k h1 h2 h3 => h k h1 h2 (hs k h3)
theorem dNot.of_new {v : Value} {S : List Nat} {b : Nat} (h : ∀ k, dBlock v = some k → dLen v ≠ 0 → b ≤ k) (hS : ∀ k, k ∈ S → k < b) : dNot v S := fun k h1 h2 h3 => by
  have := h k h1 h2
  have := hS k h3
  omega
theorem _root_.Sedge.NS.upd_own {w : World} {v : Value} {l : List Nat} (h : NS w v l) {b : Nat} (hn : l ≠ [] → ∀ k, v.ownBlock = some k → k ≠ b) (cs : Array Value) : NS (upd w b cs) v l := by
  by_cases hl : l = []
  · subst hl
    obtain ⟨a, cap, hv, h0, _⟩ := h
    exact ⟨a, cap, hv, h0, fun i hi => by simp at hi⟩
  · refine h.upd_ne (fun a n c e => ?_) cs
    subst e
    exact hn hl _ rfl
theorem DV.upd_own {w : World} {v : Value} {q : Rat} {lo hi : Int} (h : DV w v q lo hi) {b : Nat} (hn : ∀ k, dBlock v = some k → dLen v ≠ 0 → k ≠ b) (cs : Array Value) : DV (upd w b cs) v q lo hi := by
  obtain ⟨ng, Lv, E, dl, rfl, hN, h3⟩ := h
  refine ⟨ng, Lv, E, dl, rfl, hN.upd_own (fun hl k hk => hn k hk ?_) cs, h3⟩
  obtain ⟨sa, sc, rfl⟩ := hN.shape
  show dl.length ≠ 0
  intro h0; exact hl (List.length_eq_zero_iff.1 h0)
theorem DV.upd_not {w : World} {v : Value} {q : Rat} {lo hi : Int} (h : DV w v q lo hi) {b : Nat} {S : List Nat} (hn : dNot v S) (hb : b ∈ S) (cs : Array Value) : DV (upd w b cs) v q lo hi :=
  h.upd_own (fun k h1 h2 e => by subst e; exact hn k h1 h2 hb) cs
end Go.Proofs.Ytcmggfpcbijcjaa
end
section
/-
  Contracts: view.Dense without numbers; (M).Copy and straightedgeref08.Ger.
-/
set_option linter.unusedSimpArgs false
set_option linter.unusedVariables false
open Go Go.RowKit Sedge
namespace Go.Proofs.Ytcmggfpcbijcjaa
section
variable {P : Program} {o : Oper} {a : Act} {w : World} {K : Act → World → Prop} {Q : Exit → Act → World → Prop}
theorem wp_any (h : o.wp P a w K (fun e a w => e = .normal ∧ K a w)) : o.wp P a w K Q := by
  unfold Oper.wp at *
  generalize (execOp a.eval o).run P w = r at *
  cases r with
  | ok n w' =>
    cases n <;> simp only [Oper.upon] at h ⊢ <;> try exact h
    refine h.mono fun e w2 hh => ?_
    cases e with
    | returned v => exact hh
    | panicked c => exact absurd hh.1 (by simp)
    | outgrown => obtain ⟨_, _, h1, _⟩ := hh; cases h1
  | halt k w' =>
    cases k <;> simp only [Oper.upon] at h ⊢ <;> first | exact h | exact absurd h.1 (by simp)
theorem wp_id (h : o.wp P a w K Q) : o.wp P a w K Q := h
theorem wp_app {d : Option Tmp} {s x : Operand} {tt : Array TypeId} {ty : TypeId} {ps : String} {aft : Array Edge} (h : Oper.wp P { dst := d, op := .call { callee := .builtin .append, args := #[s, x], argTypes := tt }, type := ty, pos := ps, after := aft, guard := none } a w K Q) : Oper.wp P { dst := d, op := .call { callee := .builtin .append, args := #[s, x], argTypes := tt }, type := ty, pos := ps, after := aft, guard := none } a w K Q := h
/-- 'append(s, src...)', in a region that draws its order. -/
theorem appendN_K {t e : TypeId} (T : ElemF P t e) {W : World} (hW : Grew W w) {v : Value} {xs : List Nat} (hown : OwnF e w W.heap.size v xs) {D : Value} {ws : List Nat} (hD : FS w D ws)
    (hlen : xs.length + ws.length < 17592186044415) (s x : Operand) (hg : o.guard = none)
    (ho : o.op = .call { callee := .builtin .append, args := #[s, x], argTypes := #[t, t] }) (hs : a.eval s = v) (hx : a.eval x = D)
    (h : ∀ v' oo nn, OwnF e (ext W oo nn) W.heap.size v' (xs ++ ws) → (v ≠ .slice none 0 0 → v' ≠ .slice none 0 0) → K (a.put o.dst v') (ext W oo nn)) : o.wp P a w K Q := by
  have h1 := appendN_f (P := P) (ops := #[]) (Q := fun e a w => e = .normal ∧ K a w) (rest := []) T hW hown hD hlen s x hg ho hs hx (fun v' oo nn h1 h2 => ⟨rfl, h v' oo nn h1 h2⟩)
  unfold wpList at h1
  rw [if_pos (wanted_none hg)] at h1
  rcases h1 with h1 | ⟨_, _, _, h2, _⟩
  · exact wp_any (Oper.wp_mono (fun a w hh => hh.2) h1)
  · cases h2
end
set_option maxRecDepth 100000 in
set_option maxHeartbeats 1000000 in
/-- view.Dense, of sizes within 64, without numbers. -/
theorem dense0_any (r c : Nat) (w : World) (hr : r ≤ 64) (hc : c ≤ 64) (hr1 : 1 ≤ r) (hc1 : 1 ≤ c) :
   Calls Try.prog 69 #[.int .i64 r, .int .i64 c, .slice none 0 0] w (fun e w' => ∃ v, e = .returned (.agg #[v, .int .i64 0, .int .i64 r, .int .i64 c, .int .i64 r]) ∧ WS w' w.heap.size v (List.replicate (r * c) 0) ∧ ∃ o n, w' = ext w o n) := by
  have hm : r * c ≤ 64 * 64 := Nat.mul_le_mul hr hc
  have h2 : IntKind.i64.wrap ((r : Int) * c) = (r : Int) * c := IntWalk.i64_in _ (by rw [← Int.natCast_mul]; omega)
  have h3 : (0 : Int) ≤ (r : Int) * c := by rw [← Int.natCast_mul]; omega
  have d1 : decide ((r : Int) < 0) = false := by simp
  have d2 : decide ((c : Int) < 0) = false := by simp
  have d3 : decide ((64 : Int) < (r : Int)) = false := by simp; omega
  have d4 : decide ((64 : Int) < (c : Int)) = false := by simp; omega
  have d6 : decide ((1 : Int) ≤ (r : Int)) = true := by simp; omega
  have d7 : decide ((0 : Int) ≤ (r : Int) * c) = true := by simpa using h3
  go_enter Try.func69, Try.ntmps69
  refine seq_stop ?_
  go_wp2
  refine stop_go (fun W hW => ?_)
  have s1 : w.heap.size < W.heap.size := by rw [hW]; simp only [World.size_alloc]; omega
  have b1 : ∀ i, W.cell? ⟨w.heap.size, i, none⟩ = (#[.slice none 0 0, .int .i64 0, .int .i64 0, .int .i64 0, .int .i64 0] : Array Value)[i]? := by intro i; rw [hW]; go_simp
  have f1 : ∀ i, W.frozen? ⟨w.heap.size, i, none⟩ = false := by intro i; rw [hW]; go_simp
  have g0 : Grew w W := by rw [hW]; exact (Grew.refl _).alloc _
  clear hW
  go_wp2_with (at_make; refine make_f (L := (r : Int) * (c : Int)) finfo (Grew.refl W) _ _ rfl rfl (r * c) (Int.natCast_mul r c).symm rfl rfl (by omega) ?_; intro oo nn k hk ho; have hF := ho.made)
  refine name_any (fun V hV => ?_)
  have gV : Grew W V := by rw [← hV]; (show Grew _ _; repeat (first | (with_reducible exact Grew.refl _) | (with_reducible assumption) | (with_reducible exact Grew.same_o) | (with_reducible exact Grew.app_o) | (with_reducible refine Grew.ext ?_ _ _) | (with_reducible refine Grew.alloc ?_ _) | ((with_reducible refine Grew.setCell ?_ ?_ _); rotate_left; (focus (dsimp only; first | omega | (simp only [size_ext, World.size_alloc, Array.size_append]; omega)))) | (with_reducible refine Grew.drewN ?_ _) | (with_reducible refine Grew.drew ?_)))
  have sV := gV.below.size
  have k1 : w.heap.size < V.heap.size := by omega
  have k3 : W.heap.size + oo.size < V.heap.size := by rw [← hV]; simp only [World.size_alloc, size_ext]; omega
  have c1 : ∀ i, V.cell? ⟨w.heap.size, i, none⟩ = (#[.slice none 0 0, .int .i64 0, .int .i64 0, .int .i64 0, .int .i64 0] : Array Value)[i]? := fun i => (gV.cell s1).trans (b1 i)
  have z1 : ∀ i, V.frozen? ⟨w.heap.size, i, none⟩ = false := fun i => (gV.frozen s1).trans (f1 i)
  have c3 : ∀ i, V.cell? ⟨W.heap.size + oo.size, i, none⟩ = (#[.slice (some ⟨k, 0, none⟩) (r * c) (r * c), .int .i64 0, .int .i64 r, .int .i64 c, .int .i64 r] : Array Value)[i]? := by subst hV; intro i; go_simp
  have hFV : FW V k (List.replicate (r * c) 0) := by rw [← hV]; (repeat (first | (with_reducible assumption) | ((with_reducible refine FW.ext_set ?_ ?_ ?_ _); rotate_left; (focus (simp only [size_setCell', World.size_alloc, size_ext, size_upd]; omega)); (focus (dsimp only; omega))) | ((with_reducible refine FW.setCell_ne ?_ ?_ _); rotate_left; (focus (dsimp only; omega))) | (with_reducible refine FW.ext ?_ _ _) | (with_reducible refine FW.alloc ?_ _)))
  have q1 : w.heap.size ≠ k := by omega
  clear hV b1 f1 ho
  go_loopw [43] (fun s wr => s = .int .i64 0 ∧ wr = V) (fun s _ => 0)
  case atStart => exact ⟨rfl, rfl⟩
  case round =>
    obtain ⟨rfl, rfl⟩ := hrel
    go_wp2
    refine bodyPost_ret (v := .agg #[.slice (some ⟨k, 0, none⟩) (r * c) (r * c), .int .i64 0, .int .i64 r, .int .i64 c, .int .i64 r]) (by simp [results, Try.results69, go_sem, *]) rfl ?_
    exact ⟨_, rfl, ⟨k, _, by rw [List.length_replicate], by omega, by (repeat (first | (with_reducible assumption) | ((with_reducible refine FW.ext_set ?_ ?_ ?_ _); rotate_left; (focus (simp only [size_setCell', World.size_alloc, size_ext, size_upd]; omega)); (focus (dsimp only; omega))) | ((with_reducible refine FW.setCell_ne ?_ ?_ _); rotate_left; (focus (dsimp only; omega))) | (with_reducible refine FW.ext ?_ _ _) | (with_reducible refine FW.alloc ?_ _))), by rw [List.length_replicate]; omega⟩, by have gwr := g0.trans gV; (show Grew _ _; repeat (first | (with_reducible exact Grew.refl _) | (with_reducible assumption) | (with_reducible exact Grew.same_o) | (with_reducible exact Grew.app_o) | (with_reducible refine Grew.ext ?_ _ _) | (with_reducible refine Grew.alloc ?_ _) | ((with_reducible refine Grew.setCell ?_ ?_ _); rotate_left; (focus (dsimp only; first | omega | (simp only [size_ext, World.size_alloc, Array.size_append]; omega)))) | (with_reducible refine Grew.drewN ?_ _) | (with_reducible refine Grew.drew ?_)))⟩
set_option maxRecDepth 100000 in
set_option maxHeartbeats 1000000 in
/-- (M).Copy. -/
theorem mcopy_any (R C : Int) (A : Value) (T : List Nat) (w : World) (hA : FS w A T) (hl : T.length ≤ 1000000) :
   Calls Try.prog 140 #[.agg #[.int .i64 R, .int .i64 C, A]] w (fun e w' => ∃ v, e = .returned (.agg #[.int .i64 R, .int .i64 C, v]) ∧ WS w' w.heap.size v T ∧ ∃ o n, w' = ext w o n) := by
  obtain ⟨aA, cA, rfl⟩ := hA.shape
  go_enter Try.func140, Try.ntmps140
  refine seq_stop ?_
  go_wp2
  refine stop_go (fun W hW => ?_)
  have s1 : w.heap.size < W.heap.size := by rw [hW]; simp only [World.size_alloc]; omega
  have b1 : ∀ i, W.cell? ⟨w.heap.size, i, none⟩ = (#[.int .i64 R, .int .i64 C, .slice aA T.length cA] : Array Value)[i]? := by intro i; rw [hW]; go_simp
  have f1 : ∀ i, W.frozen? ⟨w.heap.size, i, none⟩ = false := by intro i; rw [hW]; go_simp
  have s2 : w.heap.size + 1 < W.heap.size := by rw [hW]; simp only [World.size_alloc]; omega
  have b2 : ∀ i, W.cell? ⟨w.heap.size + 1, i, none⟩ = (#[.int .i64 0, .int .i64 0, .slice none 0 0] : Array Value)[i]? := by intro i; rw [hW]; go_simp
  have f2 : ∀ i, W.frozen? ⟨w.heap.size + 1, i, none⟩ = false := by intro i; rw [hW]; go_simp
  have g0 : Grew w W := by rw [hW]; exact ((Grew.refl _).alloc _).alloc _
  clear hW
  have hAW : FS W (.slice aA T.length cA) T := hA.grew g0
  go_wp2
  refine wp_region_R (Grew W) [9] [(3,0), (0,1), (3,2), (0,3), (3,5), (0,6), (1,4), (1,7), (0,8), (2,9)] (by kernel_rfl) (by kernel_rfl) (fun _ _ _ _ h _ => h) (by first | exact ⟨_, _, ext_drew⟩ | exact ⟨_, _, drew_ext0⟩ | (show Grew _ _; repeat (first | (with_reducible exact Grew.refl _) | (with_reducible assumption) | (with_reducible exact Grew.same_o) | (with_reducible exact Grew.app_o) | (with_reducible refine Grew.ext ?_ _ _) | (with_reducible refine Grew.alloc ?_ _) | ((with_reducible refine Grew.setCell ?_ ?_ _); rotate_left; (focus (dsimp only; first | omega | (simp only [size_ext, World.size_alloc, Array.size_append]; omega)))) | (with_reducible refine Grew.drewN ?_ _) | (with_reducible refine Grew.drew ?_)))) ?_
  refine name_any (fun W2 hW2 => ?_)
  have g2 : Grew W W2 := by rw [← hW2]; (show Grew _ _; repeat (first | (with_reducible exact Grew.refl _) | (with_reducible assumption) | (with_reducible exact Grew.same_o) | (with_reducible exact Grew.app_o) | (with_reducible refine Grew.ext ?_ _ _) | (with_reducible refine Grew.alloc ?_ _) | ((with_reducible refine Grew.setCell ?_ ?_ _); rotate_left; (focus (dsimp only; first | omega | (simp only [size_ext, World.size_alloc, Array.size_append]; omega)))) | (with_reducible refine Grew.drewN ?_ _) | (with_reducible refine Grew.drew ?_)))
  have hAW2 := hAW.grew g2
  have gww : Grew w W2 := g0.trans g2
  have zW := g0.below.size
  have z2 := g2.below.size
  have b12 := fun i => (g2.cell s1).trans (b1 i)
  have b22 := fun i => (g2.cell s2).trans (b2 i)
  have f22 := fun i => (g2.frozen s2).trans (f2 i)
  have s12 : w.heap.size < W2.heap.size := by omega
  have s22 : w.heap.size + 1 < W2.heap.size := by omega
  clear hW2
  go_wp2_with (first | ((with_reducible refine wpR_id ?_); refine wpR_do rfl rfl (fun K hK => ?_); (with_reducible refine wp_app ?_); refine appendN_K finfo (Grew.refl W2 |>.alloc _) (OwnF.empty rfl (Nat.le_refl _)) (FS.alloc hAW2 _) (by simp; omega) _ _ rfl rfl rfl rfl ?_; intro v oo nn ho hn; obtain ⟨g, cap, rfl, hg, hF, hL⟩ := ho.ws (hn notnil) (by simp; omega); simp only [List.nil_append] at hF hL) | ((with_reducible refine wpR_id ?_); first | (refine wpR_take (v := ?_) rfl rfl ?_ ?_; rotate_left; (focus (rintro w' ⟨o', n', rfl⟩; go_simp; try with_reducible rfl)); simp only [Act.put, List.setIfInBounds_toArray, List.set_cons_zero, List.set_cons_succ]) | (refine wpR_pure (v := ?_) rfl rfl ?_ ?_; rotate_left; (focus (intro w'; go_simp; try with_reducible rfl)); simp only [Act.put, List.setIfInBounds_toArray, List.set_cons_zero, List.set_cons_succ]) | (refine wpR_takeG (v := ?_) rfl rfl rfl rfl rfl ?_ ?_; rotate_left; (focus (rintro w' ⟨o', n', rfl⟩; go_simp; try with_reducible rfl)); simp only [Act.put, List.setIfInBounds_toArray, List.set_cons_zero, List.set_cons_succ]) | (refine wpR_skip rfl rfl rfl rfl rfl rfl ?_; simp only [Act.put, List.setIfInBounds_toArray, List.set_cons_zero, List.set_cons_succ]) | (refine wpR_skipU rfl rfl rfl rfl rfl ?_; simp only [Act.put, List.setIfInBounds_toArray, List.set_cons_zero, List.set_cons_succ]) | (refine wpR_do rfl rfl (fun K hK => ?_)) | (refine wpR_doG rfl rfl rfl rfl rfl (fun K hK => ?_)) | (refine wpR_last rfl rfl (fun K hK => ?_)) | (refine wpR_nil ?_)) | ((with_reducible refine wpR_go ?_ ?_); (focus (show Grew _ _; repeat (first | (with_reducible exact Grew.refl _) | (with_reducible assumption) | (with_reducible exact Grew.same_o) | (with_reducible exact Grew.app_o) | (with_reducible refine Grew.ext ?_ _ _) | (with_reducible refine Grew.alloc ?_ _) | ((with_reducible refine Grew.setCell ?_ ?_ _); rotate_left; (focus (dsimp only; first | omega | (simp only [size_ext, World.size_alloc, Array.size_append]; omega)))) | (with_reducible refine Grew.drewN ?_ _) | (with_reducible refine Grew.drew ?_))))) | ((with_reducible refine upon_id ?_); refine upon_fop rfl (by assumption) (by assumption) ?_; intro rr nn hr))
  refine bodyPost_ret (v := .agg #[.int .i64 R, .int .i64 C, .slice (some ⟨g, 0, none⟩) T.length cap]) (by simp [results, Try.results140, go_sem, *]) rfl ?_
  exact ⟨_, rfl, ⟨g, cap, rfl, by omega, by (repeat (first | (with_reducible assumption) | ((with_reducible refine FW.ext_set ?_ ?_ ?_ _); rotate_left; (focus (simp only [size_setCell', World.size_alloc, size_ext, size_upd]; omega)); (focus (dsimp only; omega))) | ((with_reducible refine FW.setCell_ne ?_ ?_ _); rotate_left; (focus (dsimp only; omega))) | (with_reducible refine FW.ext ?_ _ _) | (with_reducible refine FW.alloc ?_ _))), hL⟩, by (show Grew _ _; repeat (first | (with_reducible exact Grew.refl _) | (with_reducible assumption) | (with_reducible exact Grew.same_o) | (with_reducible exact Grew.app_o) | (with_reducible refine Grew.ext ?_ _ _) | (with_reducible refine Grew.alloc ?_ _) | ((with_reducible refine Grew.setCell ?_ ?_ _); rotate_left; (focus (dsimp only; first | omega | (simp only [size_ext, World.size_alloc, Array.size_append]; omega)))) | (with_reducible refine Grew.drewN ?_ _) | (with_reducible refine Grew.drew ?_)))⟩
/-- Row by row: what is done up to (i, j). -/
def stepR (F s : Nat → Nat → Nat) (i j : Nat) (r c : Nat) : Nat := if r < i ∨ (r = i ∧ c < j) then F r c else s r c
def rgerF (α : Nat) (lx ly : List Nat) (M : Nat → Nat → Nat) (i j : Nat) : Nat := fadd (M i j) (fmul (fmul α (ly.getD j 0)) (lx.getD i 0))
set_option maxRecDepth 100000 in
set_option maxHeartbeats 4000000 in
/-- straightedgeref08.Ger. -/
theorem rger_any (a α R C : Nat) (T lx ly : List Nat) (M : Nat → Nat → Nat) (A X Y : Value) (w : World) (ha : IsF a α) (hA : FS w A T) (hX : FS w X lx) (hY : FS w Y ly) (hx : lx.length = R) (hy : ly.length = C) (hT : T.length = R * C) (hM : Hold (fun i j => i * C + j) R C T T M) (hR : R ≤ 1000) (hC : C ≤ 1000) :
   Calls Try.prog 60 #[.float .f64 a, X, Y, .agg #[.int .i64 R, .int .i64 C, A]] w (fun e w' => ∃ v t, e = .returned (.agg #[.int .i64 R, .int .i64 C, v]) ∧ WS w' w.heap.size v t ∧ Hold (fun i j => i * C + j) R C T t (rgerF α lx ly M) ∧ ∃ o n, w' = ext w o n) := by
  have hRC : R * C ≤ 1000 * 1000 := Nat.mul_le_mul hR hC
  have hpl : Places (fun i j => i * C + j) R C T.length := by rw [hT]; exact tabPlaces R C
  have HT := hid hT
  have Hx := hid hx
  have Hy := hid hy
  obtain ⟨aA, cA, rfl⟩ := hA.shape
  obtain ⟨aX, cX, rfl⟩ := hX.shape
  obtain ⟨aY, cY, rfl⟩ := hY.shape
  have hat : ∀ i j : Nat, i < R → j < C → ∀ w', FS w' (.slice aA T.length cA) T → Calls Try.prog 72 #[.agg #[.int .i64 R, .int .i64 C, .slice aA T.length cA], .int .i64 i, .int .i64 j] w' (fun e w2 => ∃ b, e = .returned (.float .f64 b) ∧ IsF b (M i j) ∧ ∃ o n, w2 = ext w' o n) := fun i j hi hj w' h => by
    have := rat_any R C i j (.slice aA T.length cA) T w' h hR hC (by omega) (by omega) (by rw [hT]; exact at_lt hi hj)
    rw [hM.get i j hi hj] at this; exact this
  have hcp : ∀ w', FS w' (.slice aA T.length cA) T → Calls Try.prog 140 #[.agg #[.int .i64 R, .int .i64 C, .slice aA T.length cA]] w' (fun e w2 => ∃ v, e = .returned (.agg #[.int .i64 R, .int .i64 C, v]) ∧ WS w2 w'.heap.size v T ∧ ∃ o n, w2 = ext w' o n) := fun w' h => mcopy_any R C _ T w' h (by omega)
  clear hT hx hy
  go_enter Try.func60, Try.ntmps60
  refine seq_stop ?_
  go_wp2
  refine stop_go (fun W hW => ?_)
  have s1 : w.heap.size < W.heap.size := by rw [hW]; simp only [World.size_alloc]; omega
  have b1 : ∀ i, W.cell? ⟨w.heap.size, i, none⟩ = (#[.int .i64 R, .int .i64 C, .slice aA T.length cA] : Array Value)[i]? := by intro i; rw [hW]; go_simp
  have f1 : ∀ i, W.frozen? ⟨w.heap.size, i, none⟩ = false := by intro i; rw [hW]; go_simp
  have s2 : w.heap.size + 1 < W.heap.size := by rw [hW]; simp only [World.size_alloc]; omega
  have b2 : ∀ i, W.cell? ⟨w.heap.size + 1, i, none⟩ = (#[.int .i64 0, .int .i64 0, .slice none 0 0] : Array Value)[i]? := by intro i; rw [hW]; go_simp
  have f2 : ∀ i, W.frozen? ⟨w.heap.size + 1, i, none⟩ = false := by intro i; rw [hW]; go_simp
  have g0 : Grew w W := by rw [hW]; exact ((Grew.refl _).alloc _).alloc _
  clear hW
  have hAW := hA.grew g0
  have hXW := hX.grew g0
  have hYW := hY.grew g0
  go_wp2_with (first | (go_at_call 140; ((with_reducible refine (hcp _ hAW).mono ?_); rintro e w1 ⟨v, rfl, ⟨g, cap, rfl, hg, hF, hgl⟩, oc, nc, rfl⟩)))
  refine name_any (fun V hV => ?_)
  have gV : Grew W V := by rw [← hV]; (show Grew _ _; repeat (first | (with_reducible exact Grew.refl _) | (with_reducible assumption) | (with_reducible exact Grew.same_o) | (with_reducible exact Grew.app_o) | (with_reducible refine Grew.ext ?_ _ _) | (with_reducible refine Grew.alloc ?_ _) | ((with_reducible refine Grew.setCell ?_ ?_ _); rotate_left; (focus (dsimp only; first | omega | (simp only [size_ext, World.size_alloc, Array.size_append]; omega)))) | (with_reducible refine Grew.drewN ?_ _) | (with_reducible refine Grew.drew ?_)))
  have zw := g0.below.size
  have zV := gV.below.size
  have hFV : FW V g T := by rw [← hV]; (repeat (first | (with_reducible assumption) | ((with_reducible refine FW.ext_set ?_ ?_ ?_ _); rotate_left; (focus (simp only [size_setCell', World.size_alloc, size_ext, size_upd]; omega)); (focus (dsimp only; omega))) | ((with_reducible refine FW.setCell_ne ?_ ?_ _); rotate_left; (focus (dsimp only; omega))) | (with_reducible refine FW.ext ?_ _ _) | (with_reducible refine FW.alloc ?_ _)))
  have cT : ∀ i, V.cell? ⟨W.heap.size + oc.size, i, none⟩ = (#[.int .i64 R, .int .i64 C, .slice (some ⟨g, 0, none⟩) T.length cap] : Array Value)[i]? := by subst hV; intro i; go_simp
  have kT : W.heap.size + oc.size < V.heap.size := by rw [← hV]; simp only [World.size_alloc, size_ext]; omega
  have ngT : W.heap.size + oc.size ≠ g := by have := hF.lt; simp only [size_ext] at this; omega
  obtain ⟨U, hU⟩ : ∃ U, W.heap.size + oc.size = U := ⟨_, rfl⟩
  have zU : W.heap.size ≤ U := by omega
  rw [hU] at cT kT ngT
  simp only [hU]
  have hG : ∀ k ∈ [g], W.heap.size ≤ k := by intro k hk; simp at hk; omega
  have hDu := But.fs gV hAW hG
  have hXu := But.fs gV hXW hG
  have hYu := But.fs gV hYW hG
  have c1 := But.boxW gV s1 b1 hG
  have c2 := But.boxW gV s2 b2 hG
  have z2 : ∀ w', But V [g] w' → ∀ i, w'.frozen? ⟨w.heap.size + 1, i, none⟩ = false := fun w' hb i => by
    have h1 := hb.block (w.heap.size + 1) (by omega) (by simp; omega)
    have h2 := (gV.frozen s2).trans (f2 i)
    unfold World.frozen? at h2 ⊢; simp only [h1] at h2 ⊢; exact h2
  have cU : ∀ w', But V [g] w' → ∀ i, w'.cell? ⟨U, i, none⟩ = (#[.int .i64 R, .int .i64 C, .slice (some ⟨g, 0, none⟩) T.length cap] : Array Value)[i]? := fun w' h i => (h.cell kT (by simpa using ngT)).trans (cT i)
  have kV : w.heap.size < V.heap.size := by omega
  have kV2 : w.heap.size + 1 < V.heap.size := by omega
  clear hV hU cT b1 b2 f1 f2 hF hcp
  go_loopw [10] (fun c wr => ∃ (i : Nat) (L : List Nat), i ≤ R ∧ c = .int .i64 i ∧ But V [g] wr ∧ FW wr g L ∧ Hold (fun i j => i * C + j) R C T L (stepR (rgerF α lx ly M) M i 0)) (fun c _ => R - (intOf c).toNat)
  case atStart => exact ⟨0, T, Nat.zero_le _, rfl, But.refl _ _, hFV, hM.congr fun i j _ _ => by simp [stepR]⟩
  case round =>
    obtain ⟨i, L, hi, rfl, hB, hL, hH⟩ := hrel
    have t1 := c1 _ hB
    have sB := hB.size
    have x1 : w.heap.size < wr.heap.size := by omega
    by_cases hlt : (i : Int) < R
    · have hiR : i < R := by omega
      go_wp2
      go_loopw [11] (fun c wr => ∃ (j : Nat) (L : List Nat), j ≤ C ∧ c = .int .i64 j ∧ But V [g] wr ∧ FW wr g L ∧ Hold (fun i j => i * C + j) R C T L (stepR (rgerF α lx ly M) M i j)) (fun c _ => C - (intOf c).toNat)
      case atStart => exact ⟨0, L, Nat.zero_le _, rfl, hB, hL, hH⟩
      case round =>
        obtain ⟨j, L2, hj, rfl, hB2, hL2, hH2⟩ := hrel
        have t1 := c1 _ hB2
        have tU := cU _ hB2
        have sB := hB2.size
        have x1 : w.heap.size < wr.heap.size := by omega
        have xU : U < wr.heap.size := by omega
        by_cases hl2 : (j : Int) < C
        · have hjC : j < C := by omega
          have hatij := hat i j hiR hjC
          have hgd := hH2.get i j hiR hjC
          have hset : ∀ w' r z, FW w' g L2 → IsF r z → Calls Try.prog 134 #[.agg #[.int .i64 R, .int .i64 C, .slice (some ⟨g, 0, none⟩) T.length cap], .int .i64 i, .int .i64 j, .float .f64 r] w' (fun e w2 => e = .returned (.tuple #[]) ∧ Wrote w' w2 g (L2.set (i * C + j) z)) := fun w' r z h1 h2 =>
            rset_any R C i j g cap T.length r z L2 w' h1 h2 hH2.len.symm hR hC (by omega) (by omega) (by rw [hH2.len, HT.out]; exact at_lt hiR hjC)
          obtain ⟨bx, ox, hax, hkx, hcx⟩ := hXW.at.2 (by rw [Hx.out]; omega)
          obtain ⟨rx, hrx, hfx⟩ := hcx i (by rw [Hx.out]; omega)
          obtain ⟨bz, oz, haz, hkz, hcz⟩ := hYW.at.2 (by rw [Hy.out]; omega)
          obtain ⟨ry, hry, hfy⟩ := hcz j (by rw [Hy.out]; omega)
          subst hax haz
          have lx1 : (i : Int) < lx.length := by rw [Hx.out]; omega
          have ly1 : (j : Int) < ly.length := by rw [Hy.out]; omega
          have crx : ∀ w', But V [g] w' → w'.cell? ⟨bx, ox + i, none⟩ = some (.float .f64 rx) := fun w' h => (h.cell (by omega) (by simp; omega)).trans ((gV.cell hkx).trans hrx)
          have cry : ∀ w', But V [g] w' → w'.cell? ⟨bz, oz + j, none⟩ = some (.float .f64 ry) := fun w' h => (h.cell (by omega) (by simp; omega)).trans ((gV.cell hkz).trans hry)
          clear hcx hcz hrx hry
          go_wp2
          refine wp_region_R (But V [g]) [] [(0,0), (0,1), (0,2), (0,3), (0,4), (0,5), (0,7), (0,8), (0,9), (0,10), (0,11), (0,13), (0,14), (0,15), (0,16), (1,6), (1,12), (1,17), (1,18), (1,19)] (by kernel_rfl) (by kernel_rfl) (fun _ _ _ _ h _ => h) (hB2.grew ((Grew.refl _).drew)) ?_
          refine name_any (fun V6 hV6 => ?_)
          have hg6 : Grew wr V6 := by rw [← hV6]; (show Grew _ _; repeat (first | (with_reducible exact Grew.refl _) | (with_reducible assumption) | (with_reducible exact Grew.same_o) | (with_reducible exact Grew.app_o) | (with_reducible refine Grew.ext ?_ _ _) | (with_reducible refine Grew.alloc ?_ _) | ((with_reducible refine Grew.setCell ?_ ?_ _); rotate_left; (focus (dsimp only; first | omega | (simp only [size_ext, World.size_alloc, Array.size_append]; omega)))) | (with_reducible refine Grew.drewN ?_ _) | (with_reducible refine Grew.drew ?_)))
          have B6 := hB2.grew hg6
          have F6 := hL2.grew hg6
          clear hV6 hg6
          go_wp2_with (first | ((with_reducible refine wpR_id ?_); first | (refine wpR_take (v := ?_) rfl rfl ?_ ?_; rotate_left; (focus (intro w' hw'; go_simp; try with_reducible rfl)); simp only [Act.put, List.setIfInBounds_toArray, List.set_cons_zero, List.set_cons_succ]) | (refine wpR_pure (v := ?_) rfl rfl ?_ ?_; rotate_left; (focus (intro w'; go_simp; try with_reducible rfl)); simp only [Act.put, List.setIfInBounds_toArray, List.set_cons_zero, List.set_cons_succ]) | (refine wpR_takeG (v := ?_) rfl rfl rfl rfl rfl ?_ ?_; rotate_left; (focus (intro w' hw'; go_simp; try with_reducible rfl)); simp only [Act.put, List.setIfInBounds_toArray, List.set_cons_zero, List.set_cons_succ]) | (refine wpR_skip rfl rfl rfl rfl rfl rfl ?_; simp only [Act.put, List.setIfInBounds_toArray, List.set_cons_zero, List.set_cons_succ]) | (refine wpR_skipU rfl rfl rfl rfl rfl ?_; simp only [Act.put, List.setIfInBounds_toArray, List.set_cons_zero, List.set_cons_succ]) | (refine wpR_do rfl rfl (fun K hK => ?_)) | (refine wpR_doG rfl rfl rfl rfl rfl (fun K hK => ?_)) | (refine wpR_last rfl rfl (fun K hK => ?_)) | (refine wpR_nil ?_)) | ((with_reducible refine wpR_go ?_ ?_); (focus (with_reducible assumption))) | ((with_reducible refine upon_id ?_); refine upon_fop rfl (by assumption) (by assumption) ?_; intro rr nn hr) | (go_at_call 72; ((with_reducible refine (hatij _ (hDu _ (by assumption))).mono ?_); rintro e w1 ⟨r1, rfl, hr1, hw1⟩; (have B7 := B6.grew hw1; have F7 := F6.grew hw1))) | (go_at_call 141; ((with_reducible refine (times_any a ry α _ _ ha hfy).mono ?_); rintro e w1 ⟨r2, rfl, hr2, hw2⟩; (have B8 := B7.grew hw2; have F8 := F7.grew hw2))) | (go_at_call 141; ((with_reducible refine (times_any r2 rx _ _ _ hr2 hfx).mono ?_); rintro e w1 ⟨r3, rfl, hr3, hw3⟩; (have B9 := B8.grew hw3; have F9 := F8.grew hw3))) | (go_at_call 36; ((with_reducible refine (plus_any r1 r3 _ _ _ hr1 hr3).mono ?_); rintro e w1 ⟨r4, rfl, hr4, hw4⟩; (have B10 := B9.grew hw4; have F10 := F9.grew hw4))) | (go_at_call 134; ((with_reducible refine (hset _ r4 _ F10 hr4).mono ?_); rintro e w1 ⟨rfl, hw5⟩; (have B11 := B10.wrote hw5 (.inl (by simp))))))
          go_roundw
          case rel =>
            refine ⟨j + 1, _, by omega, by go_num, B11, hw5.fw F10, (hH2.set hpl hiR hjC).congr fun r c hr hc => ?_⟩
            unfold stepR
            by_cases hrc : r = i ∧ c = j
            · obtain ⟨rfl, rfl⟩ := hrc
              simp [rgerF]
            · rw [if_neg hrc]
              by_cases h2 : r < i ∨ (r = i ∧ c < j)
              · rw [if_pos h2, if_pos (by omega)]
              · rw [if_neg h2, if_neg (by omega)]
          case measure => simp [intOf]; omega
        · have e : j = C := by omega
          go_wp2
          go_roundw
          case rel =>
            refine ⟨i + 1, L2, by omega, by go_num, hB2, hL2, hH2.congr fun r c hr hc => ?_⟩
            unfold stepR
            by_cases h2 : r < i ∨ (r = i ∧ c < j)
            · rw [if_pos h2, if_pos (by omega)]
            · rw [if_neg h2, if_neg (by omega)]
          case measure => simp [intOf]; omega
    · have e : i = R := by omega
      have t2 := c2 _ hB
      have tU := cU _ hB
      have zz := z2 _ hB
      have x2 : w.heap.size + 1 < wr.heap.size := by omega
      have xU : U < wr.heap.size := by omega
      go_wp2
      refine bodyPost_ret (v := .agg #[.int .i64 R, .int .i64 C, .slice (some ⟨g, 0, none⟩) T.length cap]) (by simp [results, Try.results60, go_sem, *]) rfl ?_
      have gwr : Grew w wr := g0.trans (hB.grew0 gV hG)
      have hlL : L.length = T.length := hH.len
      refine ⟨_, rfl, L, ⟨g, cap, by rw [hlL], by omega, by (repeat (first | (with_reducible assumption) | ((with_reducible refine FW.ext_set ?_ ?_ ?_ _); rotate_left; (focus (simp only [size_setCell', World.size_alloc, size_ext, size_upd]; omega)); (focus (dsimp only; omega))) | ((with_reducible refine FW.setCell_ne ?_ ?_ _); rotate_left; (focus (dsimp only; omega))) | (with_reducible refine FW.ext ?_ _ _) | (with_reducible refine FW.alloc ?_ _))), by rw [hlL]; omega⟩, hH.congr fun r c hr hc => ?_, by (show Grew _ _; repeat (first | (with_reducible exact Grew.refl _) | (with_reducible assumption) | (with_reducible exact Grew.same_o) | (with_reducible exact Grew.app_o) | (with_reducible refine Grew.ext ?_ _ _) | (with_reducible refine Grew.alloc ?_ _) | ((with_reducible refine Grew.setCell ?_ ?_ _); rotate_left; (focus (dsimp only; first | omega | (simp only [size_ext, World.size_alloc, Array.size_append]; omega)))) | (with_reducible refine Grew.drewN ?_ _) | (with_reducible refine Grew.drew ?_)))⟩
      unfold stepR
      rw [if_pos (by omega)]
end Go.Proofs.Ytcmggfpcbijcjaa
end
section
/-
  Appends, and what stays beside them.
-/
set_option linter.unusedSimpArgs false
set_option linter.unusedVariables false
namespace Sedge
open Go Go.RowKit
section
variable {P : Program} {ops : Array Oper} {rest : List Oper} {o : Oper} {a : Act} {Q : Exit → Act → World → Prop}
theorem append1_k {t e e' : TypeId} {z0 : Value} (und : P.underlying t = some (.slice e)) (info : (P.info? e).map (fun i => (i.zero, i.size, i.bytes)) = some (some z0, 1, 8)) (hz0 : z0.cells.size = 1)
    {W w : World} (hW : Grew W w) {v y : Value} {xs : List Value} (hown : w.ownsRow W.heap.size e 1 v xs.length xs) (hy : y.oneCell' = true)
    (hlen : xs.length < 17592186044415) (s x : Operand) (hg : o.guard = none)
    (ho : o.op = .call { callee := .builtin .append, args := #[s, x], argTypes := #[t, t] }) (hs : a.eval s = v) {k : Nat} (hk : k = w.heap.size) (hx : a.eval x = .slice (some ⟨k, 0, none⟩) 1 1)
    (h : ∀ v' w', Grew W w' → w.heap.size ≤ w'.heap.size → w'.ownsRow W.heap.size e 1 v' (xs.length + 1) (xs ++ [y]) →
      (∀ k, k < w.heap.size → v.ownBlock ≠ some k → w'.heap[k]? = w.heap[k]?) → (∀ k, v'.ownBlock = some k → v.ownBlock = some k ∨ w.heap.size ≤ k) → wpList P ops Q rest (a.put o.dst v') w') :
    wpList P ops Q (o :: rest) a (w.alloc (.cells #[y] e')) := by
  subst hk
  obtain ⟨i0, hi, hz⟩ := Option.map_eq_some_iff.1 info
  simp only [Prod.mk.injEq] at hz
  obtain ⟨hz1, hz2, hz3⟩ := hz
  have hgA : Grew w (w.alloc (.cells #[y] e')) := (Grew.refl w).alloc _
  have keep : ∀ e2 u n2 ys (w' : World), w.ownsRow W.heap.size e2 1 u n2 ys → (∀ k, u.ownBlock = some k → w'.heap[k]? = w.heap[k]?) → w'.ownsRow W.heap.size e2 1 u n2 ys := fun e2 u n2 ys w' hu hk => by
    obtain ⟨h1, h2⟩ := hu
    refine ⟨h1, ?_⟩
    rcases h2 with h2 | ⟨g, cap, cur, rfl, hB, hh, r⟩
    · exact .inl h2
    · exact .inr ⟨g, cap, cur, rfl, hB, by rw [hk g rfl]; exact hh, r⟩
  have hown' := keep _ _ _ _ (w.alloc (.cells #[y] e')) hown (fun k hk => hgA.below.block k (hown.lt k hk).2)
  refine wpList_append_own_at _ hg s x t ho W.heap.size e i0 z0 1 8 und hi hz1 hz2 hz3 hz0 (by decide) v xs.length xs hs hown' ⟨w.heap.size, 0, none⟩ 1 1 [y] hx rfl ?_ ?_ ?_ ?_ ?_ ?_
  · intro j u hj
    match j, hj with
    | 0, hj =>
      simp at hj; subst hj
      have e1 : (⟨w.heap.size, 0, none⟩ : Addr).add 0 = ⟨w.heap.size, 0, none⟩ := by simp [Addr.add]
      rw [e1, World.cell?_alloc_new]; rfl
  · intro u hu; simp at hu; subst hu; exact hy
  · simp [maxLen]; omega
  · omega
  · have := hW.below.size; simp; omega
  · intro v' w' ho2 hgr hnn hloc
    have hG := grew_grown (hW.alloc (.cells #[y] e')) hgr (fun k hk => (hown.lt k hk).1)
    refine h v' w' hG (Nat.le_trans hgA.below.size hgr.size) ho2 (fun k hk hne => ?_) (fun k hk => ?_)
    · exact (hgr.block k (Nat.lt_of_lt_of_le hk hgA.below.size) (fun e => hne e.symm)).trans (hgA.below.block k hk)
    · rcases hloc with h1 | h1
      · rw [h1] at hk; exact .inl hk
      · rw [h1] at hk; simp at hk; right; omega
/-- 'append' of one float, and what stays. -/
theorem append1_fk {t e e' : TypeId} (T : ElemF P t e) {W w : World} (hW : Grew W w) {v : Value} {xs : List Nat} (hown : OwnF e w W.heap.size v xs) {b y : Nat} (hy : IsF b y)
    (hlen : xs.length < 17592186044415) (s x : Operand) (hg : o.guard = none)
    (ho : o.op = .call { callee := .builtin .append, args := #[s, x], argTypes := #[t, t] }) (hs : a.eval s = v) {k : Nat} (hk : k = w.heap.size) (hx : a.eval x = .slice (some ⟨k, 0, none⟩) 1 1)
    (h : ∀ v' w', Grew W w' → w.heap.size ≤ w'.heap.size → OwnF e w' W.heap.size v' (xs ++ [y]) →
      (∀ k, k < w.heap.size → v.ownBlock ≠ some k → w'.heap[k]? = w.heap[k]?) → (∀ k, v'.ownBlock = some k → v.ownBlock = some k ∨ w.heap.size ≤ k) → wpList P ops Q rest (a.put o.dst v') w') :
    wpList P ops Q (o :: rest) a (w.alloc (.cells #[.float .f64 b] e')) := by
  obtain ⟨bs, ho1, rfl, hb⟩ := hown
  refine append1_k T.und T.info rfl hW (xs := bs.map (Value.float .f64)) (by simpa using ho1) rfl (by simpa using hlen) s x hg ho hs hk hx ?_
  intro v' w' h1 h2 h3 h4 h5
  refine h v' w' h1 h2 ⟨bs ++ [b], by simpa using h3, by simp [hy.2], fun z hz => ?_⟩ h4 h5
  rcases List.mem_append.1 hz with hz | hz
  · exact hb z hz
  · simp at hz; subst hz; exact hy.1
end
end Sedge
namespace Go.Proofs.Ytcmggfpcbijcjaa
open Go Go.RowKit Sedge
theorem iinfoK : (Try.prog.info? 3).map (fun i => (i.zero, i.size, i.bytes)) = some (some (Value.int .i64 0), 1, 8) := by kernel_rfl
theorem iundK : Try.prog.underlying 30 = some (.slice 3) := by kernel_rfl
section
variable {P : Program} {o : Oper} {a : Act} {w : World} {K : Act → World → Prop} {Q : Exit → Act → World → Prop}
theorem wp_mk {d : Option Tmp} {t : TypeId} {l c : Operand} {ty : TypeId} {ps : String} {aft : Array Edge} (h : Oper.wp P { dst := d, op := .makeSlice t l c, type := ty, pos := ps, after := aft, guard := none } a w K Q) : Oper.wp P { dst := d, op := .makeSlice t l c, type := ty, pos := ps, after := aft, guard := none } a w K Q := h
/-- 'make([]float64, n)', in a region that draws its order. -/
theorem make_K {t e : TypeId} (T : ElemF P t e) {W : World} (hW : Grew W w) (l c : Operand) (hg : o.guard = none) (hop : o.op = Op.makeSlice t l c) (n : Nat) {L : Int} (hL : L = n) (hl : a.eval l = .int .i64 L) (hc : a.eval c = .int .i64 L)
    (hn : n ≤ 17592186044415)
    (h : ∀ oo nn k, W.heap.size ≤ k → OwnF e (ext W oo nn) W.heap.size (.slice (some ⟨k, 0, none⟩) n n) (List.replicate n 0) → K (a.put o.dst (.slice (some ⟨k, 0, none⟩) n n)) (ext W oo nn)) : o.wp P a w K Q := by
  have h1 := make_f (P := P) (ops := #[]) (Q := fun e a w => e = .normal ∧ K a w) (rest := []) T hW l c hg hop n hL hl hc hn (fun oo nn k h1 h2 => ⟨rfl, h oo nn k h1 h2⟩)
  unfold wpList at h1
  rw [if_pos (wanted_none hg)] at h1
  rcases h1 with h1 | ⟨_, _, _, h2, _⟩
  · exact wp_any (Oper.wp_mono (fun a w hh => hh.2) h1)
  · cases h2
end
end Go.Proofs.Ytcmggfpcbijcjaa
end
section
/-
  Contracts: equil.list, view.Numbers, move.Finite, equil.greatest.
-/
set_option linter.unusedSimpArgs false
set_option linter.unusedVariables false
open Go Go.RowKit Sedge
namespace Go.Proofs.Ytcmggfpcbijcjaa
set_option maxRecDepth 100000 in
set_option maxHeartbeats 1000000 in
/-- equil.list. -/
theorem elist_any (x : VecM) (D : Value) (w : World) (hD : FS w D x.ws) (hx : x.right = true) (hwf : x.wf) (hl : x.ws.length ≤ 1000000) :
   Calls Try.prog 176 #[.agg #[D, .int .i64 x.off, .int .i64 x.n, .int .i64 x.inc]] w
     (fun e w' => ∃ v, e = .returned v ∧ FS w' v x.list ∧ ∃ o n, w' = ext w o n) := by
  have hn := VecM.right_n hx
  have hn2 := hwf.2.1.2
  have hnl := VecM.right_nle hx hl
  have Hx := hid hx
  have Hn := hid hn
  have Hn2 := hid hn2
  have Hnl := hid hnl
  clear hx hn hwf hn2 hnl
  go_enter Try.func176, Try.ntmps176
  refine seq_stop ?_
  go_wp2
  refine stop_go (fun W hW => ?_)
  have s1 : w.heap.size < W.heap.size := by rw [hW]; simp only [World.size_alloc]; omega
  have b1 : ∀ i, W.cell? ⟨w.heap.size, i, none⟩ = (#[D, .int .i64 x.off, .int .i64 x.n, .int .i64 x.inc] : Array Value)[i]? := by intro i; rw [hW]; go_simp
  have g0 : Grew w W := by rw [hW]; exact (Grew.refl _).alloc _
  clear hW
  have hDW : FS W D x.ws := hD.grew g0
  go_wp2
  go_loopw [3, 7] (fun v c wr => ∃ (i : Nat) (o : Array Obj) (n : Nat), (i : Int) ≤ x.n ∧ c = .int .i64 i ∧ wr = ext W o n ∧ OwnF 22 wr W.heap.size v (listTo x i)) (fun _ c _ => x.n.toNat - (intOf c).toNat)
  case atStart => exact ⟨0, #[], _, Hn.out.1, rfl, ext_zero.symm, by simpa [listTo] using OwnF.nil _ _ _⟩
  case round =>
    obtain ⟨i, o2, n2, hi, rfl, hwr, hown⟩ := hrel
    subst hwr
    by_cases hlt : (i : Int) < x.n
    · have hp := VecM.right_place Hx.out hlt
      have hnl := Hnl.out
      have hN := Hn.out
      have h2 : IntKind.i64.wrap (i * x.inc) = i * x.inc := IntWalk.i64_in _ (by omega)
      have h3 : IntKind.i64.wrap (x.off + i * x.inc) = x.off + i * x.inc := IntWalk.i64_in _ (by omega)
      obtain ⟨blk, o, cap', rfl, hblk, hc⟩ := hDW.open (by omega)
      obtain ⟨b, hb, hf⟩ := hc (x.place i) (by unfold VecM.place; omega)
      unfold VecM.place at hb
      have hf' : IsF b (x.num i) := hf
      have hll : (listTo x i).length = i := by simp [listTo]
      clear hc
      go_wp2_with (at_builtin; refine append1_f finfo (((Grew.refl W).ext _ _)) hown hf' (by rw [hll]; omega) _ _ rfl rfl rfl (by simp only [size_ext]) rfl ?_; intro v oo nn ho hn)
      go_roundw
      case rel => exact ⟨i + 1, oo, nn, by omega, by go_num, rfl, by rw [listTo_succ]; exact ho⟩
      case measure => simp [intOf]; omega
    · have e : x.n.toNat = i := by have := Hn.out; omega
      have hown' := hown
      rw [show listTo x i = x.list by unfold listTo VecM.list; rw [e]] at hown'
      have hfs := hown'.fs (by rw [VecM.list_length]; have := Hnl.out; omega)
      go_wp2
      go_ret
      exact ⟨_, rfl, hfs, by (show Grew _ _; repeat (first | (with_reducible exact Grew.refl _) | (with_reducible assumption) | (with_reducible exact Grew.same_o) | (with_reducible exact Grew.app_o) | (with_reducible refine Grew.ext ?_ _ _) | (with_reducible refine Grew.alloc ?_ _) | ((with_reducible refine Grew.setCell ?_ ?_ _); rotate_left; (focus (dsimp only; first | omega | (simp only [size_ext, World.size_alloc, Array.size_append]; omega)))) | (with_reducible refine Grew.drewN ?_ _) | (with_reducible refine Grew.drew ?_)))⟩
/-- All numbers, column by column. -/
def numTo (x : MatM) (R k : Nat) : List Nat := (List.range k).map fun t => x.num (t % R) (t / R)
def numL (x : MatM) : List Nat := numTo x x.rows.toNat (x.rows.toNat * x.cols.toNat)
theorem numTo_succ (x : MatM) (R k : Nat) : numTo x R (k + 1) = numTo x R k ++ [x.num (k % R) (k / R)] := by unfold numTo; rw [List.range_succ, List.map_append]; rfl
theorem numTo_length (x : MatM) (R k : Nat) : (numTo x R k).length = k := by simp [numTo]
theorem numTo_at (x : MatM) {R i j : Nat} (hi : i < R) : numTo x R (j * R + (i + 1)) = numTo x R (j * R + i) ++ [x.num i j] := by
  rw [← Nat.add_assoc, numTo_succ]
  congr 3
  · rw [Nat.add_comm, Nat.add_mul_mod_self_right, Nat.mod_eq_of_lt hi]
  · rw [Nat.add_comm, Nat.add_mul_div_right _ _ (by omega), Nat.div_eq_of_lt hi, Nat.zero_add]
set_option maxRecDepth 100000 in
set_option maxHeartbeats 2000000 in
/-- view.Numbers. -/
theorem numbers_any (x : MatM) (D : Value) (w : World) (hD : FS w D x.ws) (hx : x.good = true) (hwf : x.wf) (hl : x.ws.length ≤ 1000000) (hr : x.rows ≤ 1000) (hc : x.cols ≤ 1000) :
   Calls Try.prog 198 #[.agg #[D, .int .i64 x.off, .int .i64 x.rows, .int .i64 x.cols, .int .i64 x.ld]] w
     (fun e w' => ∃ v, e = .returned v ∧ FS w' v (numL x) ∧ ∃ o n, w' = ext w o n) := by
  have hn := MatM.good_n hx
  have hsp : ∀ w', FS w' D x.ws → Calls Try.prog 194 #[.agg #[D, .int .i64 x.off, .int .i64 x.rows, .int .i64 x.cols, .int .i64 x.ld]] w' (fun e w2 => e = .returned (.tuple #[.int .i64 (spanLo x), .int .i64 (spanHi x), .bool (MatM.full x)]) ∧ ∃ o n, w2 = ext w' o n) := fun w' h => span_any x D w' h hwf hl
  cases hf : MatM.full x
  · rw [hf] at hsp
    have e : numL x = [] := by
      have h0 : x.rows.toNat * x.cols.toNat = 0 := by
        unfold MatM.full at hf; rw [hx] at hf
        simp at hf
        by_cases h : x.rows = 0
        · rw [h]; simp
        · rw [hf h]; simp
      unfold numL numTo; rw [h0]; rfl
    rw [e]
    clear hf e hx
    go_enter Try.func198, Try.ntmps198
    refine seq_stop ?_
    go_wp2
    refine stop_go (fun W hW => ?_)
    have s1 : w.heap.size < W.heap.size := by rw [hW]; simp only [World.size_alloc]; omega
    have b1 : ∀ i, W.cell? ⟨w.heap.size, i, none⟩ = (#[D, .int .i64 x.off, .int .i64 x.rows, .int .i64 x.cols, .int .i64 x.ld] : Array Value)[i]? := by intro i; rw [hW]; go_simp
    have g0 : Grew w W := by rw [hW]; exact (Grew.refl _).alloc _
    clear hW
    have hDW : FS W D x.ws := hD.grew g0
    go_wp2_with (first | (go_at_call 194; ((with_reducible refine (hsp _ ?_).mono ?_); (focus (first | (with_reducible assumption) | (with_reducible refine FS.ext ?_ _ _; with_reducible assumption) | (with_reducible refine IS.ext ?_ _ _; with_reducible assumption) | (refine hDu _ ?_; with_reducible assumption) | (refine hOu _ ?_; with_reducible assumption) | (refine hDa _ ?_; with_reducible assumption) | (refine hDb _ ?_; with_reducible assumption) | (refine hDc _ ?_; with_reducible assumption) | (refine hDd _ ?_; with_reducible assumption) | (refine FW.fs ?_ (by omega) _; with_reducible assumption) | (refine WS.fs ?_; with_reducible assumption) | (refine FW.fs ?_ (by omega) _; assumption) | omega | assumption)); rintro e w1 ⟨rfl, o1, n1, rfl⟩)))
    go_ret
    exact ⟨_, rfl, FS.nil _, by (show Grew _ _; repeat (first | (with_reducible exact Grew.refl _) | (with_reducible assumption) | (with_reducible exact Grew.same_o) | (with_reducible exact Grew.app_o) | (with_reducible refine Grew.ext ?_ _ _) | (with_reducible refine Grew.alloc ?_ _) | ((with_reducible refine Grew.setCell ?_ ?_ _); rotate_left; (focus (dsimp only; first | omega | (simp only [size_ext, World.size_alloc, Array.size_append]; omega)))) | (with_reducible refine Grew.drewN ?_ _) | (with_reducible refine Grew.drew ?_)))⟩
  · rw [hf] at hsp
    have h0 : x.rows ≠ 0 ∧ x.cols ≠ 0 := by
      unfold MatM.full at hf; rw [hx] at hf; simpa using hf
    obtain ⟨R, hR⟩ : ∃ R : Nat, x.rows = R := ⟨x.rows.toNat, by omega⟩
    obtain ⟨C, hC⟩ : ∃ C : Nat, x.cols = C := ⟨x.cols.toNat, by omega⟩
    have hRC : R * C ≤ 1000 * 1000 := Nat.mul_le_mul (by omega) (by omega)
    have eL : numL x = numTo x R (R * C) := by unfold numL; rw [hR, hC]; rfl
    rw [eL]
    have hcol : ∀ (j : Nat) w', j < C → FS w' D x.ws → Calls Try.prog 149 #[.agg #[D, .int .i64 x.off, .int .i64 R, .int .i64 C, .int .i64 x.ld], .int .i64 j] w' (fun e w2 => e = .returned (.agg #[D, .int .i64 (x.off + j * x.ld), .int .i64 R, .int .i64 1]) ∧ ∃ o n, w2 = ext w' o n) := fun j w' hj h => by
      have := col_any x D j w' h hx hwf (by omega)
      have e : (colV x j).off = x.off + j * x.ld := by unfold colV; simp; omega
      rw [e, hR, hC] at this
      exact this
    have hpl : ∀ i j : Nat, i < R → j < C → 0 ≤ x.off + j * x.ld + i ∧ x.off + j * x.ld + i < x.ws.length ∧ (x.off + j * x.ld + i).toNat = x.place i j ∧ 0 ≤ x.off + j * x.ld := fun i j hi hj => by
      have h := MatM.good_place hx (i := i) (j := j) (by omega) (by omega)
      unfold MatM.place
      refine ⟨by omega, by omega, by congr 1; omega, by omega⟩
    rw [hR, hC] at hsp ⊢
    have hpos := MatM.good_place hx (i := 0) (j := 0) (by omega) (by omega)
    obtain ⟨blk, o, cap', rfl, hblk, hcw⟩ := hD.open (by omega)
    have Hcw := hid hcw
    have HPL := hid hpl
    clear hpl hf hx hwf hn eL h0 hcw hpos
    go_enter Try.func198, Try.ntmps198
    refine seq_stop ?_
    go_wp2
    refine stop_go (fun W hW => ?_)
    have s1 : w.heap.size < W.heap.size := by rw [hW]; simp only [World.size_alloc]; omega
    have b1 : ∀ i, W.cell? ⟨w.heap.size, i, none⟩ = (#[.slice (some ⟨blk, o, none⟩) x.ws.length cap', .int .i64 x.off, .int .i64 R, .int .i64 C, .int .i64 x.ld] : Array Value)[i]? := by intro i; rw [hW]; go_simp
    have g0 : Grew w W := by rw [hW]; exact (Grew.refl _).alloc _
    clear hW
    have hDW := hD.grew g0
    go_wp2_with (first | (go_at_call 194; ((with_reducible refine (hsp _ ?_).mono ?_); (focus (first | (with_reducible assumption) | (with_reducible refine FS.ext ?_ _ _; with_reducible assumption) | (with_reducible refine IS.ext ?_ _ _; with_reducible assumption) | (refine hDu _ ?_; with_reducible assumption) | (refine hOu _ ?_; with_reducible assumption) | (refine hDa _ ?_; with_reducible assumption) | (refine hDb _ ?_; with_reducible assumption) | (refine hDc _ ?_; with_reducible assumption) | (refine hDd _ ?_; with_reducible assumption) | (refine FW.fs ?_ (by omega) _; with_reducible assumption) | (refine WS.fs ?_; with_reducible assumption) | (refine FW.fs ?_ (by omega) _; assumption) | omega | assumption)); rintro e w1 ⟨rfl, o1, n1, rfl⟩)))
    refine name_any (fun V hV => ?_)
    have gV : Grew W V := by rw [← hV]; (show Grew _ _; (try simp only [← Array.append_assoc]); repeat (first | (with_reducible exact Grew.same_o) | (with_reducible exact Grew.refl _) | (with_reducible assumption) | (with_reducible refine Grew.alloc ?_ _) | (with_reducible refine Grew.app_r ?_) | ((with_reducible refine Grew.setCell ?_ ?_ _); rotate_left; (focus (dsimp only; first | omega | (simp only [size_ext, World.size_alloc, Array.size_append]; omega)))) | (with_reducible refine Grew.ext ?_ _ _) | (with_reducible refine Grew.drewN ?_ _) | (with_reducible refine Grew.drew ?_)))
    have gwV := Grew.trans g0 gV
    have t1 : ∀ w', Grew V w' → ∀ i, w'.cell? ⟨w.heap.size, i, none⟩ = (#[.slice (some ⟨blk, o, none⟩) x.ws.length cap', .int .i64 x.off, .int .i64 R, .int .i64 C, .int .i64 x.ld] : Array Value)[i]? := fun w' g i => ((Grew.trans gV g).cell s1).trans (b1 i)
    have zV := gV.below.size
    have hDV := hDW.grew gV
    have k1 : w.heap.size < V.heap.size := by omega
    clear hV b1 hsp
    go_loopw [6, 20] (fun v c wr => ∃ (j : Nat), j ≤ C ∧ c = .int .i64 j ∧ Grew V wr ∧ OwnF 22 wr V.heap.size v (numTo x R (j * R))) (fun _ c _ => C - (intOf c).toNat)
    case atStart => exact ⟨0, Nat.zero_le _, rfl, Grew.refl _, by simpa [numTo] using OwnF.nil _ _ _⟩
    case round =>
      obtain ⟨j, hj, rfl, gr, hown⟩ := hrel
      by_cases hlt : j < C
      · have tt := t1 _ gr
        have zr := gr.below.size
        have kr : w.heap.size < wr.heap.size := by omega
        have hDr := hDV.grew gr
        go_wp2_with (first | (go_at_call 149; ((with_reducible refine (hcol j _ hlt ?_).mono ?_); (focus (first | (with_reducible assumption) | (with_reducible refine FS.ext ?_ _ _; with_reducible assumption) | (with_reducible refine IS.ext ?_ _ _; with_reducible assumption) | (refine hDu _ ?_; with_reducible assumption) | (refine hOu _ ?_; with_reducible assumption) | (refine hDa _ ?_; with_reducible assumption) | (refine hDb _ ?_; with_reducible assumption) | (refine hDc _ ?_; with_reducible assumption) | (refine hDd _ ?_; with_reducible assumption) | (refine FW.fs ?_ (by omega) _; with_reducible assumption) | (refine WS.fs ?_; with_reducible assumption) | (refine FW.fs ?_ (by omega) _; assumption) | omega | assumption)); rintro e w1 ⟨rfl, o2, n2, rfl⟩)))
        refine name_any (fun U hU => ?_)
        obtain ⟨T, hT⟩ : ∃ T, T = wr.heap.size + o2.size := ⟨_, rfl⟩
        have gU : Grew wr U := by rw [← hU]; (show Grew _ _; (try simp only [← Array.append_assoc]); repeat (first | (with_reducible exact Grew.same_o) | (with_reducible exact Grew.refl _) | (with_reducible assumption) | (with_reducible refine Grew.alloc ?_ _) | (with_reducible refine Grew.app_r ?_) | ((with_reducible refine Grew.setCell ?_ ?_ _); rotate_left; (focus (dsimp only; first | omega | (simp only [size_ext, World.size_alloc, Array.size_append]; omega)))) | (with_reducible refine Grew.ext ?_ _ _) | (with_reducible refine Grew.drewN ?_ _) | (with_reducible refine Grew.drew ?_)))
        have BT : Box U T #[.slice (some ⟨blk, o, none⟩) x.ws.length cap', .int .i64 (x.off + j * x.ld), .int .i64 R, .int .i64 1] := by rw [← hU]; exact Box.new' (by rw [hT]; simp only [size_ext])
        have nT : ∀ k, u6.ownBlock = some k → k ≠ T := fun k hk => by
          obtain ⟨bs, h1, _⟩ := hown
          have := (World.ownsRow.lt h1 k hk).2
          omega
        have hownU := hown.grew gU
        have gVU := Grew.trans gr gU
        have kT := BT.lt
        have tT := BT.cell
        simp only [← hT]
        clear hU hT hown gU tt hDr
        go_loopw [6, 28] (fun v c wx => ∃ (i : Nat), i ≤ R ∧ c = .int .i64 i ∧ Grew V wx ∧ Box wx T #[.slice (some ⟨blk, o, none⟩) x.ws.length cap', .int .i64 (x.off + j * x.ld), .int .i64 R, .int .i64 1] ∧ OwnF 22 wx V.heap.size v (numTo x R (j * R + i)) ∧ ∀ k, v.ownBlock = some k → k ≠ T) (fun _ c _ => R - (intOf c).toNat)
        case atStart => exact ⟨0, Nat.zero_le _, rfl, gVU, BT, hownU, nT⟩
        case round =>
          clear BT hownU nT gVU kT tT
          obtain ⟨i, hi, rfl, gx, BX, hown, nv⟩ := hrel
          by_cases hli : i < R
          · obtain ⟨hp1, hp2, hp3, hp4⟩ := HPL.out i j hli hlt
            have h3 : IntKind.i64.wrap (x.off + j * x.ld + i) = x.off + j * x.ld + i := IntWalk.i64_in _ (by omega)
            obtain ⟨b, hb, hf⟩ := Hcw.out (x.place i j) (by omega)
            rw [← hp3] at hb
            have hf' : IsF b (x.num i j) := hf
            have hbx := ((Grew.trans gwV gx).cell hblk).trans hb
            have zx := (Grew.trans gwV gx).below.size
            have kb : blk < wr.heap.size := by omega
            have tX := BX.cell
            have kX := BX.lt
            have hll : (numTo x R (j * R + i)).length < 17592186044415 := by
              rw [numTo_length]
              have := Nat.mul_le_mul_right R (show j + 1 ≤ C by omega)
              rw [Nat.add_mul, Nat.mul_comm C R] at this; omega
            clear hb hf hp3
            go_wp2_with (at_builtin; refine append1_fk finfo gx hown hf' hll _ _ rfl rfl rfl ?_ rfl ?_; (focus (first | rfl | simp only [size_ext])); intro v2 w2 gw2 zw2 hv2 hk2 hn2)
            go_roundw
            case rel => exact ⟨i + 1, hli, by go_num, gw2, (by obtain ⟨e, he⟩ := BX; exact ⟨e, (hk2 T kX (fun h => nv T h rfl)).trans he⟩), by rw [numTo_at x hli]; exact hv2, fun k hk => by rcases hn2 k hk with h | h; exact nv k h; omega⟩
            case measure => simp [intOf]; omega
          · have e : i = R := by omega
            subst e
            go_wp2
            go_roundw
            case rel => exact ⟨j + 1, hlt, by go_num, gx, by rw [Nat.add_mul, Nat.one_mul]; exact hown⟩
            case measure => simp [intOf]; omega
      · have e : j = C := by omega
        subst e
        rw [Nat.mul_comm] at hown
        have hfs := hown.fs (by rw [numTo_length]; omega)
        go_wp2
        go_ret
        exact ⟨_, rfl, hfs, Grew.trans gwV gr⟩
set_option maxRecDepth 100000 in
set_option maxHeartbeats 1000000 in
/-- move.Finite. -/
theorem mfin_any (x : MatM) (D : Value) (w : World) (hD : FS w D x.ws) (hwf : x.wf) (hl : x.ws.length ≤ 1000000) (hr : x.rows ≤ 1000) (hc : x.cols ≤ 1000) :
   Calls Try.prog 174 #[.agg #[D, .int .i64 x.off, .int .i64 x.rows, .int .i64 x.cols, .int .i64 x.ld]] w
     (fun e w' => e = .returned (.bool (x.good && finL (numL x))) ∧ ∃ o n, w' = ext w o n) := by
  have hgd : ∀ w', FS w' D x.ws → Calls Try.prog 130 #[.agg #[D, .int .i64 x.off, .int .i64 x.rows, .int .i64 x.cols, .int .i64 x.ld]] w' (fun e w2 => e = .returned (.bool x.good) ∧ ∃ o n, w2 = ext w' o n) := fun w' h => good_any x D w' h hwf
  have hnb : x.good = true → ∀ w', FS w' D x.ws → Calls Try.prog 198 #[.agg #[D, .int .i64 x.off, .int .i64 x.rows, .int .i64 x.cols, .int .i64 x.ld]] w' (fun e w2 => ∃ v, e = .returned v ∧ FS w2 v (numL x) ∧ ∃ o n, w2 = ext w' o n) := fun hg w' h => numbers_any x D w' h hg hwf hl hr hc
  cases hg : x.good
  · rw [hg] at hgd
    clear hnb hwf
    go_enter Try.func174, Try.ntmps174
    refine seq_stop ?_
    go_wp2
    refine stop_go (fun W hW => ?_)
    have s1 : w.heap.size < W.heap.size := by rw [hW]; simp only [World.size_alloc]; omega
    have b1 : ∀ i, W.cell? ⟨w.heap.size, i, none⟩ = (#[D, .int .i64 x.off, .int .i64 x.rows, .int .i64 x.cols, .int .i64 x.ld] : Array Value)[i]? := by intro i; rw [hW]; go_simp
    have g0 : Grew w W := by rw [hW]; exact (Grew.refl _).alloc _
    clear hW
    have hDW : FS W D x.ws := hD.grew g0
    go_wp2_with (first | (go_at_call 130; ((with_reducible refine (hgd _ ?_).mono ?_); (focus (first | (with_reducible assumption) | (with_reducible refine FS.ext ?_ _ _; with_reducible assumption) | (with_reducible refine IS.ext ?_ _ _; with_reducible assumption) | (refine hDu _ ?_; with_reducible assumption) | (refine hOu _ ?_; with_reducible assumption) | (refine hDa _ ?_; with_reducible assumption) | (refine hDb _ ?_; with_reducible assumption) | (refine hDc _ ?_; with_reducible assumption) | (refine hDd _ ?_; with_reducible assumption) | (refine FW.fs ?_ (by omega) _; with_reducible assumption) | (refine WS.fs ?_; with_reducible assumption) | (refine FW.fs ?_ (by omega) _; assumption) | omega | assumption)); rintro e w1 ⟨rfl, o1, n1, rfl⟩)))
    go_ret
    exact ⟨rfl, by (show Grew _ _; repeat (first | (with_reducible exact Grew.refl _) | (with_reducible assumption) | (with_reducible exact Grew.same_o) | (with_reducible exact Grew.app_o) | (with_reducible refine Grew.ext ?_ _ _) | (with_reducible refine Grew.alloc ?_ _) | ((with_reducible refine Grew.setCell ?_ ?_ _); rotate_left; (focus (dsimp only; first | omega | (simp only [size_ext, World.size_alloc, Array.size_append]; omega)))) | (with_reducible refine Grew.drewN ?_ _) | (with_reducible refine Grew.drew ?_)))⟩
  · rw [hg] at hgd
    have hnb' := hnb hg
    obtain ⟨L, hL⟩ : ∃ L, L = numL x := ⟨_, rfl⟩
    rw [← hL] at hnb' ⊢
    clear hnb hwf hg hL
    go_enter Try.func174, Try.ntmps174
    refine seq_stop ?_
    go_wp2
    refine stop_go (fun W hW => ?_)
    have s1 : w.heap.size < W.heap.size := by rw [hW]; simp only [World.size_alloc]; omega
    have b1 : ∀ i, W.cell? ⟨w.heap.size, i, none⟩ = (#[D, .int .i64 x.off, .int .i64 x.rows, .int .i64 x.cols, .int .i64 x.ld] : Array Value)[i]? := by intro i; rw [hW]; go_simp
    have g0 : Grew w W := by rw [hW]; exact (Grew.refl _).alloc _
    clear hW
    have hDW : FS W D x.ws := hD.grew g0
    go_wp2_with (first | (go_at_call 130; ((with_reducible refine (hgd _ ?_).mono ?_); (focus (first | (with_reducible assumption) | (with_reducible refine FS.ext ?_ _ _; with_reducible assumption) | (with_reducible refine IS.ext ?_ _ _; with_reducible assumption) | (refine hDu _ ?_; with_reducible assumption) | (refine hOu _ ?_; with_reducible assumption) | (refine hDa _ ?_; with_reducible assumption) | (refine hDb _ ?_; with_reducible assumption) | (refine hDc _ ?_; with_reducible assumption) | (refine hDd _ ?_; with_reducible assumption) | (refine FW.fs ?_ (by omega) _; with_reducible assumption) | (refine WS.fs ?_; with_reducible assumption) | (refine FW.fs ?_ (by omega) _; assumption) | omega | assumption)); rintro e w1 ⟨rfl, o1, n1, rfl⟩)) | (go_at_call 198; ((with_reducible refine (hnb' _ ?_).mono ?_); (focus (first | (with_reducible assumption) | (with_reducible refine FS.ext ?_ _ _; with_reducible assumption) | (with_reducible refine IS.ext ?_ _ _; with_reducible assumption) | (refine hDu _ ?_; with_reducible assumption) | (refine hOu _ ?_; with_reducible assumption) | (refine hDa _ ?_; with_reducible assumption) | (refine hDb _ ?_; with_reducible assumption) | (refine hDc _ ?_; with_reducible assumption) | (refine hDd _ ?_; with_reducible assumption) | (refine FW.fs ?_ (by omega) _; with_reducible assumption) | (refine WS.fs ?_; with_reducible assumption) | (refine FW.fs ?_ (by omega) _; assumption) | omega | assumption)); rintro e w1 ⟨v, rfl, hv, o2, n2, rfl⟩; (try simp only [drew_ext, drewN_ext, ext_ext] at hv))) | (go_at_call 200; ((with_reducible refine (nfin_any _ _ _ hv).mono ?_); rintro e w1 ⟨rfl, rfl⟩)))
    go_ret
    exact ⟨ret_bool (by simp), by (show Grew _ _; repeat (first | (with_reducible exact Grew.refl _) | (with_reducible assumption) | (with_reducible exact Grew.same_o) | (with_reducible exact Grew.app_o) | (with_reducible refine Grew.ext ?_ _ _) | (with_reducible refine Grew.alloc ?_ _) | ((with_reducible refine Grew.setCell ?_ ?_ _); rotate_left; (focus (dsimp only; first | omega | (simp only [size_ext, World.size_alloc, Array.size_append]; omega)))) | (with_reducible refine Grew.drewN ?_ _) | (with_reducible refine Grew.drew ?_)))⟩
end Go.Proofs.Ytcmggfpcbijcjaa
end
section
/-
  Worlds that grew: arrays of new blocks, however they are bracketed.
-/
set_option linter.unusedSimpArgs false
set_option linter.unusedVariables false
namespace Sedge
open Go Go.RowKit
theorem Grew.app_r {X U : World} {o o' : Array Obj} {n : Nat} (h : Grew X (Sedge.ext U o n)) : Grew X (Sedge.ext U (o ++ o') n) := h.trans ⟨o', n, by simp⟩
end Sedge
end
section
/-
  Contracts: equil.greatest, of equil.Factors' two closures.
-/
set_option linter.unusedSimpArgs false
set_option linter.unusedVariables false
open Go Go.RowKit Sedge
namespace Go.Proofs.Ytcmggfpcbijcjaa
/-- The greatest of what isn't 0, so far. -/
def bestTo (X : Nat → Nat) (e : Nat → Int) : Nat → Option Int
  | 0 => none
  | k + 1 => if feq0 (X k) = true then bestTo X e k else some (match bestTo X e k with
    | none => e k
    | some b => max b (e k))
def bestI (o : Option Int) : Int := match o with
  | none => -1048576
  | some b => b
theorem bestTo_in {X : Nat → Nat} {e : Nat → Int} (h : ∀ k, -100000 ≤ e k ∧ e k ≤ 100000) : ∀ n b, bestTo X e n = some b → -100000 ≤ b ∧ b ≤ 100000
  | 0, b, hb => by cases hb
  | n + 1, b, hb => by
    unfold bestTo at hb
    split at hb
    · exact bestTo_in h n b hb
    · have h1 := h n
      cases hq : bestTo X e n with
      | none => rw [hq] at hb; simp at hb; omega
      | some c =>
        have h2 := bestTo_in h n c hq
        rw [hq] at hb; simp at hb; omega
theorem bestTo_congr {X Y : Nat → Nat} {e f : Nat → Int} : ∀ n, (∀ k, k < n → X k = Y k ∧ e k = f k) → bestTo X e n = bestTo Y f n
  | 0, _ => rfl
  | n + 1, h => by
    unfold bestTo
    rw [bestTo_congr n (fun k hk => h k (by omega)), (h n (by omega)).1, (h n (by omega)).2]
theorem best_zero {X : Nat → Nat} {e : Nat → Int} {n : Nat} (h : feq0 (X n) = true) : bestTo X e (n + 1) = bestTo X e n := by
  show (if feq0 (X n) = true then _ else _) = _; rw [if_pos h]
theorem best_step {X : Nat → Nat} {e : Nat → Int} {n : Nat} (h : feq0 (X n) = false) (he : -100000 ≤ e n) : bestI (bestTo X e (n + 1)) = max (bestI (bestTo X e n)) (e n) := by
  show bestI (if feq0 (X n) = true then _ else _) = _
  rw [if_neg (by rw [h]; decide)]
  cases bestTo X e n with
  | none => show e n = max (-1048576) (e n); omega
  | some b => rfl
theorem best_some {X : Nat → Nat} {e : Nat → Int} (h : ∀ k, -100000 ≤ e k ∧ e k ≤ 100000) (n : Nat) : ((bestI (bestTo X e n)) != -1048576) = (bestTo X e n).isSome := by
  cases hq : bestTo X e n with
  | none => rfl
  | some b =>
    have := bestTo_in h n b hq
    show (b != -1048576) = true
    simp; omega
set_option maxRecDepth 100000 in
/-- equil.Factors' first closure. -/
theorem ecl1_any (i : Int) (b x : Nat) (w : World) (hb : IsF b x) : Calls Try.prog 177 #[.int .i64 i, .float .f64 b] w (fun e w' => e = .returned (.int .i64 (fexp x)) ∧ ∃ o n, w' = ext w o n) := by
  have h := fun w' => nexp_any b x w' hb
  go_enter Try.func177, Try.ntmps177
  go_wp2_with (first | (go_at_call 178; ((with_reducible refine (h _).mono ?_); rintro e w1 ⟨rfl, o1, n1, rfl⟩)))
  go_ret
  exact ⟨rfl, by (show Grew _ _; repeat (first | (with_reducible exact Grew.refl _) | (with_reducible assumption) | (with_reducible exact Grew.same_o) | (with_reducible exact Grew.app_o) | (with_reducible refine Grew.ext ?_ _ _) | (with_reducible refine Grew.alloc ?_ _) | ((with_reducible refine Grew.setCell ?_ ?_ _); rotate_left; (focus (dsimp only; first | omega | (simp only [size_ext, World.size_alloc, Array.size_append]; omega)))) | (with_reducible refine Grew.drewN ?_ _) | (with_reducible refine Grew.drew ?_)))⟩
set_option maxRecDepth 100000 in
set_option maxHeartbeats 1000000 in
/-- equil.greatest, of the first closure. -/
theorem great1_any (D : Value) (ws : List Nat) (w : World) (hD : FS w D ws) (hl : ws.length ≤ 1000000) :
   Calls Try.prog 175 #[D, .func (.func 177) #[] #[]] w (fun e w' => e = .returned (.tuple #[.int .i64 (bestI (bestTo (fun k => ws.getD k 0) (fun k => fexp (ws.getD k 0)) ws.length)), .bool (bestTo (fun k => ws.getD k 0) (fun k => fexp (ws.getD k 0)) ws.length).isSome]) ∧ ∃ o n, w' = ext w o n) := by
  obtain ⟨X, hX⟩ : ∃ X : Nat → Nat, X = fun k => ws.getD k 0 := ⟨_, rfl⟩
  obtain ⟨e, he⟩ : ∃ e : Nat → Int, e = fun k => fexp (ws.getD k 0) := ⟨_, rfl⟩
  have heb : ∀ k, -100000 ≤ e k ∧ e k ≤ 100000 := fun k => by rw [he]; have := fexp_range' (ws.getD k 0); simp only; omega
  rw [← hX, ← he]
  have hsm := best_some heb (X := X)
  have hcl : ∀ (i : Nat) (b : Nat) w', IsF b (ws.getD i 0) → Calls Try.prog 177 #[.int .i64 i, .float .f64 b] w' (fun e2 w2 => e2 = .returned (.int .i64 (e i)) ∧ ∃ o n, w2 = ext w' o n) := fun i b w' hb => by rw [he]; exact ecl1_any i b _ w' hb
  obtain ⟨a, cap, rfl⟩ := hD.shape
  have HX := hid hX
  have HE := hid heb
  have HS := hid hsm
  clear hX he heb hsm
  go_enter Try.func175, Try.ntmps175
  go_wp2
  go_loopw [7, 12] (fun m c wr => ∃ (k : Nat), k ≤ ws.length ∧ c = .int .i64 k ∧ m = .int .i64 (bestI (bestTo X e k)) ∧ Grew w wr) (fun _ c _ => ws.length - (intOf c).toNat)
  case atStart => exact ⟨0, Nat.zero_le _, rfl, rfl, Grew.refl _⟩
  case round =>
    obtain ⟨k, hk, rfl, rfl, g⟩ := hrel
    have hDr := hD.grew g
    by_cases hlt : k < ws.length
    · obtain ⟨blk, o, ea, hblk, hc⟩ := hDr.at.2 (by omega)
      subst ea
      obtain ⟨b, hb, hf⟩ := hc k hlt
      have hck := fun w' => hcl k b w' hf
      have hXk : X k = ws.getD k 0 := by rw [HX.out]
      clear hc hcl
      have hz : (FloatKind.f64.format.order b 0 != some Ordering.eq) = !(feq0 (X k)) := by
        rw [hXk]; unfold feq0; rw [← hf.order isF_zero]; rfl
      cases hq : feq0 (X k)
      · rw [hq] at hz
        have hst := best_step (e := e) hq (HE.out k).1
        obtain ⟨B, hB⟩ : ∃ B, B = bestI (bestTo X e k) := ⟨_, rfl⟩
        obtain ⟨E, hE⟩ : ∃ E, E = e k := ⟨_, rfl⟩
        rw [← hB, ← hE] at hst
        rw [← hE] at hck
        rw [← hB]
        have HST := hid hst
        clear hst hB hE hq hXk
        go_wp2_with (first | (go_at_call 177; ((with_reducible refine (hck _).mono ?_); rintro e w1 ⟨rfl, o1, n1, rfl⟩)))
        go_roundw
        case rel => exact ⟨k + 1, hlt, by go_num, by rw [HST.out]; congr 1; split <;> omega, Grew.trans g ⟨_, _, rfl⟩⟩
        case measure => simp [intOf]; omega
      · rw [hq] at hz
        have hst := best_zero (e := e) hq
        have HST := hid hst
        clear hst hq hXk
        go_wp2
        go_roundw
        case rel => exact ⟨k + 1, hlt, by go_num, by rw [HST.out], g⟩
        case measure => simp [intOf]; omega
    · have e1 : k = ws.length := by omega
      subst e1
      have h1 := HS.out ws.length
      go_wp2
      go_ret2
      exact ⟨rfl, g⟩
set_option maxRecDepth 100000 in
set_option maxHeartbeats 1000000 in
/-- equil.Factors' second closure. -/
theorem ecl2_any (i b x p : Nat) (R : Value) (rs : List Int) (w : World) (hb : IsF b x) (hR : IS .i64 w R rs) (hp : ∀ i, w.cell? ⟨p, i, none⟩ = (#[R] : Array Value)[i]?) (kp : p < w.heap.size) (hi : i < rs.length) (hrb : ∀ k, -50000 ≤ rs.getD k 0 ∧ rs.getD k 0 ≤ 50000) :
   Calls Try.prog 179 #[.int .i64 i, .float .f64 b, .pointer (some ⟨p, 0, none⟩)] w (fun e w' => e = .returned (.int .i64 (fexp x + rs.getD i 0)) ∧ ∃ o n, w' = ext w o n) := by
  have h := fun w' => nexp_any b x w' hb
  have hr := fexp_range' x
  have hrk := hrb i
  obtain ⟨aR, cR, rfl⟩ := hR.shape
  obtain ⟨blk, o, ea, hblk, hc⟩ := hR.at.2 (by omega)
  subst ea
  have hz := hc i hi
  obtain ⟨z, hzz⟩ : ∃ z, z = rs.getD i 0 := ⟨_, rfl⟩
  rw [← hzz] at hz hrk ⊢
  obtain ⟨E, hE⟩ : ∃ E, E = fexp x := ⟨_, rfl⟩
  rw [← hE] at hr ⊢
  simp only [← hE] at h
  have r1 : IntKind.i64.wrap (E + z) = E + z := IntWalk.i64_in _ (by omega)
  clear hc hR hrb hzz hE
  go_enter Try.func179, Try.ntmps179
  go_wp2
  refine wp_region_R (Grew w) [] [(0,0), (0,2), (0,3), (0,4), (0,5), (1,1), (0,6), (0,7)] (by kernel_rfl) (by kernel_rfl) (fun _ _ _ _ h _ => h) (by first | exact ⟨_, _, ext_drew⟩ | exact ⟨_, _, drew_ext0⟩ | (show Grew _ _; repeat (first | (with_reducible exact Grew.refl _) | (with_reducible assumption) | (with_reducible exact Grew.same_o) | (with_reducible exact Grew.app_o) | (with_reducible refine Grew.ext ?_ _ _) | (with_reducible refine Grew.alloc ?_ _) | ((with_reducible refine Grew.setCell ?_ ?_ _); rotate_left; (focus (dsimp only; first | omega | (simp only [size_ext, World.size_alloc, Array.size_append]; omega)))) | (with_reducible refine Grew.drewN ?_ _) | (with_reducible refine Grew.drew ?_)))) ?_
  go_wp2_with (first | ((with_reducible refine wpR_id ?_); first | (refine wpR_take (v := ?_) rfl rfl ?_ ?_; rotate_left; (focus (rintro w' ⟨o', n', rfl⟩; go_simp; try with_reducible rfl)); simp only [Act.put, List.setIfInBounds_toArray, List.set_cons_zero, List.set_cons_succ]) | (refine wpR_pure (v := ?_) rfl rfl ?_ ?_; rotate_left; (focus (intro w'; go_simp; try with_reducible rfl)); simp only [Act.put, List.setIfInBounds_toArray, List.set_cons_zero, List.set_cons_succ]) | (refine wpR_takeG (v := ?_) rfl rfl rfl rfl rfl ?_ ?_; rotate_left; (focus (rintro w' ⟨o', n', rfl⟩; go_simp; try with_reducible rfl)); simp only [Act.put, List.setIfInBounds_toArray, List.set_cons_zero, List.set_cons_succ]) | (refine wpR_skip rfl rfl rfl rfl rfl rfl ?_; simp only [Act.put, List.setIfInBounds_toArray, List.set_cons_zero, List.set_cons_succ]) | (refine wpR_skipU rfl rfl rfl rfl rfl ?_; simp only [Act.put, List.setIfInBounds_toArray, List.set_cons_zero, List.set_cons_succ]) | (refine wpR_do rfl rfl (fun K hK => ?_)) | (refine wpR_doG rfl rfl rfl rfl rfl (fun K hK => ?_)) | (refine wpR_last rfl rfl (fun K hK => ?_)) | (refine wpR_nil ?_)) | ((with_reducible refine wpR_go ?_ ?_); (focus (show Grew _ _; repeat (first | (with_reducible exact Grew.refl _) | (with_reducible assumption) | (with_reducible exact Grew.same_o) | (with_reducible exact Grew.app_o) | (with_reducible refine Grew.ext ?_ _ _) | (with_reducible refine Grew.alloc ?_ _) | ((with_reducible refine Grew.setCell ?_ ?_ _); rotate_left; (focus (dsimp only; first | omega | (simp only [size_ext, World.size_alloc, Array.size_append]; omega)))) | (with_reducible refine Grew.drewN ?_ _) | (with_reducible refine Grew.drew ?_))))) | ((with_reducible refine upon_id ?_); refine upon_fop rfl (by assumption) (by assumption) ?_; intro rr nn hr) | (go_at_call 178; ((with_reducible refine (h _).mono ?_); rintro e w1 ⟨rfl, o1, n1, rfl⟩)))
  go_ret
  exact ⟨rfl, by (show Grew _ _; repeat (first | (with_reducible exact Grew.refl _) | (with_reducible assumption) | (with_reducible exact Grew.same_o) | (with_reducible exact Grew.app_o) | (with_reducible refine Grew.ext ?_ _ _) | (with_reducible refine Grew.alloc ?_ _) | ((with_reducible refine Grew.setCell ?_ ?_ _); rotate_left; (focus (dsimp only; first | omega | (simp only [size_ext, World.size_alloc, Array.size_append]; omega)))) | (with_reducible refine Grew.drewN ?_ _) | (with_reducible refine Grew.drew ?_)))⟩
set_option maxRecDepth 100000 in
set_option maxHeartbeats 1000000 in
/-- equil.greatest, of the second closure. -/
theorem great2_any (D : Value) (ws : List Nat) (p : Nat) (R : Value) (rs : List Int) (w : World) (hD : FS w D ws) (hl : ws.length ≤ 1000000) (hR : IS .i64 w R rs) (hp : ∀ i, w.cell? ⟨p, i, none⟩ = (#[R] : Array Value)[i]?) (kp : p < w.heap.size) (hlr : ws.length ≤ rs.length) (hrb : ∀ k, -50000 ≤ rs.getD k 0 ∧ rs.getD k 0 ≤ 50000) :
   Calls Try.prog 175 #[D, .func (.func 179) #[] #[.pointer (some ⟨p, 0, none⟩)]] w (fun e w' => e = .returned (.tuple #[.int .i64 (bestI (bestTo (fun k => ws.getD k 0) (fun k => fexp (ws.getD k 0) + rs.getD k 0) ws.length)), .bool (bestTo (fun k => ws.getD k 0) (fun k => fexp (ws.getD k 0) + rs.getD k 0) ws.length).isSome]) ∧ ∃ o n, w' = ext w o n) := by
  obtain ⟨X, hX⟩ : ∃ X : Nat → Nat, X = fun k => ws.getD k 0 := ⟨_, rfl⟩
  obtain ⟨e, he⟩ : ∃ e : Nat → Int, e = fun k => fexp (ws.getD k 0) + rs.getD k 0 := ⟨_, rfl⟩
  have heb : ∀ k, -100000 ≤ e k ∧ e k ≤ 100000 := fun k => by rw [he]; have := fexp_range' (ws.getD k 0); have := hrb k; simp only; omega
  rw [← hX, ← he]
  have hsm := best_some heb (X := X)
  have hcl : ∀ (i : Nat) (b : Nat) w', i < ws.length → IsF b (ws.getD i 0) → Grew w w' → Calls Try.prog 179 #[.int .i64 i, .float .f64 b, .pointer (some ⟨p, 0, none⟩)] w' (fun e2 w2 => e2 = .returned (.int .i64 (e i)) ∧ ∃ o n, w2 = ext w' o n) := fun i b w' hi hb g => by rw [he]; exact ecl2_any i b _ p R rs w' hb (hR.grew g) (fun i => (g.cell kp).trans (hp i)) (Nat.lt_of_lt_of_le kp g.below.size) (by omega) hrb
  obtain ⟨a, cap, rfl⟩ := hD.shape
  have HX := hid hX
  have HE := hid heb
  have HS := hid hsm
  clear hX he heb hsm hR hp hrb hlr
  go_enter Try.func175, Try.ntmps175
  go_wp2
  go_loopw [7, 12] (fun m c wr => ∃ (k : Nat), k ≤ ws.length ∧ c = .int .i64 k ∧ m = .int .i64 (bestI (bestTo X e k)) ∧ Grew w wr) (fun _ c _ => ws.length - (intOf c).toNat)
  case atStart => exact ⟨0, Nat.zero_le _, rfl, rfl, Grew.refl _⟩
  case round =>
    obtain ⟨k, hk, rfl, rfl, g⟩ := hrel
    have hDr := hD.grew g
    by_cases hlt : k < ws.length
    · obtain ⟨blk, o, ea, hblk, hc⟩ := hDr.at.2 (by omega)
      subst ea
      obtain ⟨b, hb, hf⟩ := hc k hlt
      have hck := fun w' g => hcl k b w' hlt hf g
      have hXk : X k = ws.getD k 0 := by rw [HX.out]
      clear hc hcl
      have hz : (FloatKind.f64.format.order b 0 != some Ordering.eq) = !(feq0 (X k)) := by
        rw [hXk]; unfold feq0; rw [← hf.order isF_zero]; rfl
      cases hq : feq0 (X k)
      · rw [hq] at hz
        have hst := best_step (e := e) hq (HE.out k).1
        obtain ⟨B, hB⟩ : ∃ B, B = bestI (bestTo X e k) := ⟨_, rfl⟩
        obtain ⟨E, hE⟩ : ∃ E, E = e k := ⟨_, rfl⟩
        rw [← hB, ← hE] at hst
        rw [← hE] at hck
        rw [← hB]
        have HST := hid hst
        clear hst hB hE hq hXk
        go_wp2_with (first | (go_at_call 179; ((with_reducible refine (hck _ (Grew.trans g (by (show Grew _ _; (try simp only [← Array.append_assoc]); repeat (first | (with_reducible exact Grew.same_o) | (with_reducible exact Grew.refl _) | (with_reducible assumption) | (with_reducible refine Grew.alloc ?_ _) | (with_reducible refine Grew.app_r ?_) | ((with_reducible refine Grew.setCell ?_ ?_ _); rotate_left; (focus (dsimp only; first | omega | (simp only [size_ext, World.size_alloc, Array.size_append]; omega)))) | (with_reducible refine Grew.ext ?_ _ _) | (with_reducible refine Grew.drewN ?_ _) | (with_reducible refine Grew.drew ?_)))))).mono ?_); rintro e w1 ⟨rfl, o1, n1, rfl⟩)))
        go_roundw
        case rel => exact ⟨k + 1, hlt, by go_num, by rw [HST.out]; congr 1; split <;> omega, Grew.trans g ⟨_, _, rfl⟩⟩
        case measure => simp [intOf]; omega
      · rw [hq] at hz
        have hst := best_zero (e := e) hq
        have HST := hid hst
        clear hst hq hXk
        go_wp2
        go_roundw
        case rel => exact ⟨k + 1, hlt, by go_num, by rw [HST.out], g⟩
        case measure => simp [intOf]; omega
    · have e1 : k = ws.length := by omega
      subst e1
      have h1 := HS.out ws.length
      go_wp2
      go_ret2
      exact ⟨rfl, g⟩
end Go.Proofs.Ytcmggfpcbijcjaa
end
section
/-
  Plain: columns of a matrix as vectors.
-/
set_option linter.unusedSimpArgs false
set_option linter.unusedVariables false
open Go Go.RowKit Sedge
namespace Go.Proofs.Ytcmggfpcbijcjaa
theorem colv_right {m : MatM} (hm : m.good = true) {j : Nat} (hj : (j : Int) < m.cols) (h0 : 0 < m.rows) : (colV m j).right = true := by
  have hn := MatM.good_n hm
  have hp := MatM.good_place hm (i := (m.rows - 1).toNat) (j := j) (by omega) hj
  have hp0 := MatM.good_place hm (i := 0) (j := j) (by omega) hj
  unfold VecM.right colV fitsB
  simp only [h0, if_true, Bool.and_eq_true, Bool.or_eq_true, decide_eq_true_eq]
  rw [Int.toNat_of_nonneg (by omega)] at hp
  simp only [Int.natCast_zero, Int.add_zero] at hp0
  refine ⟨by omega, .inr ⟨by omega, by omega⟩⟩
theorem colv_rightA {m : MatM} (hm : m.good = true) {j : Nat} (hj : (j : Int) < m.cols) : (colV m j).right = true := by
  by_cases h0 : 0 < m.rows
  · exact colv_right hm hj h0
  · have hn := MatM.good_n hm
    unfold VecM.right colV
    simp only [h0, if_false, Bool.and_eq_true, Bool.or_eq_true, decide_eq_true_eq]
    omega
theorem colv_wf {m : MatM} (hm : m.good = true) (hl : m.ws.length ≤ 1000000) (hw : m.wf) {j : Nat} (hj : (j : Int) < m.cols) : (colV m j).wf := by
  obtain ⟨i1, i2, i3, i4⟩ := hw
  by_cases h0 : 0 < m.rows
  · have hp := MatM.good_place hm (i := 0) (j := j) (by simpa using h0) hj
    simp only [Int.natCast_zero, Int.add_zero] at hp
    unfold VecM.wf colV
    simp only [h0, if_true]
    exact ⟨by unfold I64; omega, i2, by unfold I64; omega⟩
  · unfold VecM.wf colV
    simp only [h0, if_false]
    exact ⟨i1, i2, by unfold I64; omega⟩
theorem colv_place {m : MatM} (h0 : 0 < m.rows) (j r : Nat) : (colV m j).place r = m.place r j := by
  unfold colV VecM.place MatM.place; simp only [h0, if_true]; congr 1; omega
end Go.Proofs.Ytcmggfpcbijcjaa
end
