/-
  Texts laid one behind the other (a claim has at most 60 files): Ger1, TrsvLaw, TrsvLaw2, Trsv2, Clear, Gemv1, Gemv2, Gemv3, Vecs, MatD, TurnP.
-/
import Derived.Test.YtcmggfpcbijcjaaQGemmWhole1
import Derived.Test.YtcmggfpcbijcjaaQGemmWhole2
import Derived.Test.YtcmggfpcbijcjaaQGemmWhole3
import Derived.Test.YtcmggfpcbijcjaaQGemmWhole4
section
/-
  Contracts: view.Col, ger.row, ger.Ger's closure, ger.each.
-/
set_option linter.unusedSimpArgs false
set_option linter.unusedVariables false
open Go Go.RowKit Sedge
namespace Go.Proofs.Ytcmggfpcbijcjaa
def colV (m : MatM) (j : Nat) : VecM := ⟨m.ws, if 0 < m.rows then m.off + j * m.ld else m.off, m.rows, 1⟩
set_option maxRecDepth 100000 in
set_option maxHeartbeats 1000000 in
/-- view.Col. -/
theorem col_any (x : MatM) (D : Value) (j : Nat) (w : World) (hD : FS w D x.ws) (hx : x.good = true) (hwf : x.wf) (hj : (j : Int) < x.cols) :
   Calls Try.prog 149 #[.agg #[D, .int .i64 x.off, .int .i64 x.rows, .int .i64 x.cols, .int .i64 x.ld], .int .i64 j] w
     (fun e w' => e = .returned (.agg #[D, .int .i64 (colV x j).off, .int .i64 x.rows, .int .i64 1]) ∧ ∃ o n, w' = ext w o n) := by
  have hn := MatM.good_n hx
  obtain ⟨aD, capD, rfl⟩ := hD.shape
  have k1 : (!x.good) = false := by simp [hx]
  have hlen := hD.len
  have Hw := hid hwf
  have k3 : decide ((j : Int) < 0) = false := by simp
  have k4 : decide (x.cols ≤ (j : Int)) = false := by simp; omega
  by_cases hc : 0 < x.rows
  · have hp := MatM.good_place hx (i := 0) (j := j) (by simpa using hc) hj
    simp only [Int.natCast_zero, Int.add_zero] at hp
    have e : (colV x j).off = x.off + j * x.ld := by simp [colV, hc]
    have r1 : IntKind.i64.wrap ((j : Int) * x.ld) = j * x.ld := IntWalk.i64_in _ (by omega)
    have r2 : IntKind.i64.wrap (x.off + j * x.ld) = x.off + j * x.ld := IntWalk.i64_in _ (by omega)
    have Hx := hid hx
    have d5 : decide (0 < x.rows) = true := by simpa using hc
    rw [e]
    clear hx hwf e
    go_enter Try.func149, Try.ntmps149
    refine seq_stop ?_
    go_wp2
    refine stop_go (fun W hW => ?_)
    have s1 : w.heap.size < W.heap.size := by rw [hW]; simp only [World.size_alloc]; omega
    have b1 : ∀ i, W.cell? ⟨w.heap.size, i, none⟩ = (#[.slice aD x.ws.length capD, .int .i64 x.off, .int .i64 x.rows, .int .i64 x.cols, .int .i64 x.ld] : Array Value)[i]? := by intro i; rw [hW]; go_simp
    have f1 : ∀ i, W.frozen? ⟨w.heap.size, i, none⟩ = false := by intro i; rw [hW]; go_simp
    have s2 : w.heap.size + 1 < W.heap.size := by rw [hW]; simp only [World.size_alloc]; omega
    have b2 : ∀ i, W.cell? ⟨w.heap.size + 1, i, none⟩ = (#[.slice none 0 0, .int .i64 0, .int .i64 0, .int .i64 0] : Array Value)[i]? := by intro i; rw [hW]; go_simp
    have f2 : ∀ i, W.frozen? ⟨w.heap.size + 1, i, none⟩ = false := by intro i; rw [hW]; go_simp
    have g0 : Grew w W := by rw [hW]; exact ((Grew.refl _).alloc _).alloc _
    clear hW
    have hDW : FS W (.slice aD x.ws.length capD) x.ws := hD.grew g0
    go_wp2_with (first | (go_at_call 130; ((with_reducible refine (good_any x _ _ ?_ Hw.out).mono ?_); (focus (first | (with_reducible assumption) | (with_reducible refine FS.ext ?_ _ _; with_reducible assumption) | (with_reducible refine IS.ext ?_ _ _; with_reducible assumption) | (refine hDu _ ?_; with_reducible assumption) | (refine hOu _ ?_; with_reducible assumption) | (refine hDa _ ?_; with_reducible assumption) | (refine hDb _ ?_; with_reducible assumption) | (refine hDc _ ?_; with_reducible assumption) | (refine hDd _ ?_; with_reducible assumption) | (refine FW.fs ?_ (by omega) _; with_reducible assumption) | (refine WS.fs ?_; with_reducible assumption) | (refine FW.fs ?_ (by omega) _; assumption) | omega | assumption)); rintro e w1 ⟨rfl, o1, n1, rfl⟩)))
    refine bodyPost_ret (v := .agg #[.slice aD x.ws.length capD, .int .i64 (x.off + j * x.ld), .int .i64 x.rows, .int .i64 1]) (by simp [results, Try.results149, go_sem, *]) rfl ?_
    exact ⟨rfl, by (show Grew _ _; repeat (first | (with_reducible exact Grew.refl _) | (with_reducible assumption) | (with_reducible exact Grew.same_o) | (with_reducible exact Grew.app_o) | (with_reducible refine Grew.ext ?_ _ _) | (with_reducible refine Grew.alloc ?_ _) | ((with_reducible refine Grew.setCell ?_ ?_ _); rotate_left; (focus (dsimp only; first | omega | (simp only [size_ext, World.size_alloc, Array.size_append]; omega)))) | (with_reducible refine Grew.drewN ?_ _) | (with_reducible refine Grew.drew ?_)))⟩
  · have e : (colV x j).off = x.off := by simp [colV, hc]
    have Hx := hid hx
    have d5 : decide (0 < x.rows) = false := by simpa using hc
    rw [e]
    clear hx hwf e
    go_enter Try.func149, Try.ntmps149
    refine seq_stop ?_
    go_wp2
    refine stop_go (fun W hW => ?_)
    have s1 : w.heap.size < W.heap.size := by rw [hW]; simp only [World.size_alloc]; omega
    have b1 : ∀ i, W.cell? ⟨w.heap.size, i, none⟩ = (#[.slice aD x.ws.length capD, .int .i64 x.off, .int .i64 x.rows, .int .i64 x.cols, .int .i64 x.ld] : Array Value)[i]? := by intro i; rw [hW]; go_simp
    have f1 : ∀ i, W.frozen? ⟨w.heap.size, i, none⟩ = false := by intro i; rw [hW]; go_simp
    have s2 : w.heap.size + 1 < W.heap.size := by rw [hW]; simp only [World.size_alloc]; omega
    have b2 : ∀ i, W.cell? ⟨w.heap.size + 1, i, none⟩ = (#[.slice none 0 0, .int .i64 0, .int .i64 0, .int .i64 0] : Array Value)[i]? := by intro i; rw [hW]; go_simp
    have f2 : ∀ i, W.frozen? ⟨w.heap.size + 1, i, none⟩ = false := by intro i; rw [hW]; go_simp
    have g0 : Grew w W := by rw [hW]; exact ((Grew.refl _).alloc _).alloc _
    clear hW
    have hDW : FS W (.slice aD x.ws.length capD) x.ws := hD.grew g0
    go_wp2_with (first | (go_at_call 130; ((with_reducible refine (good_any x _ _ ?_ Hw.out).mono ?_); (focus (first | (with_reducible assumption) | (with_reducible refine FS.ext ?_ _ _; with_reducible assumption) | (with_reducible refine IS.ext ?_ _ _; with_reducible assumption) | (refine hDu _ ?_; with_reducible assumption) | (refine hOu _ ?_; with_reducible assumption) | (refine hDa _ ?_; with_reducible assumption) | (refine hDb _ ?_; with_reducible assumption) | (refine hDc _ ?_; with_reducible assumption) | (refine hDd _ ?_; with_reducible assumption) | (refine FW.fs ?_ (by omega) _; with_reducible assumption) | (refine WS.fs ?_; with_reducible assumption) | (refine FW.fs ?_ (by omega) _; assumption) | omega | assumption)); rintro e w1 ⟨rfl, o1, n1, rfl⟩)))
    refine bodyPost_ret (v := .agg #[.slice aD x.ws.length capD, .int .i64 x.off, .int .i64 x.rows, .int .i64 1]) (by simp [results, Try.results149, go_sem, *]) rfl ?_
    exact ⟨rfl, by (show Grew _ _; repeat (first | (with_reducible exact Grew.refl _) | (with_reducible assumption) | (with_reducible exact Grew.same_o) | (with_reducible exact Grew.app_o) | (with_reducible refine Grew.ext ?_ _ _) | (with_reducible refine Grew.alloc ?_ _) | ((with_reducible refine Grew.setCell ?_ ?_ _); rotate_left; (focus (dsimp only; first | omega | (simp only [size_ext, World.size_alloc, Array.size_append]; omega)))) | (with_reducible refine Grew.drewN ?_ _) | (with_reducible refine Grew.drew ?_)))⟩
set_option maxRecDepth 100000 in
set_option maxHeartbeats 1000000 in
/-- ger.row. -/
theorem grow_any (x : VecM) (a : Option Addr) (l c : Nat) (w : World) :
   Calls Try.prog 137 #[.agg #[.slice a l c, .int .i64 x.off, .int .i64 x.n, .int .i64 x.inc]] w (fun e w' => e = .returned (.agg #[.slice a l c, .int .i64 x.off, .int .i64 1, .int .i64 x.n, .int .i64 x.inc]) ∧ ∃ o n, w' = ext w o n) := by
  go_enter Try.func137, Try.ntmps137
  refine seq_stop ?_
  go_wp2
  refine stop_go (fun W hW => ?_)
  have s1 : w.heap.size < W.heap.size := by rw [hW]; simp only [World.size_alloc]; omega
  have b1 : ∀ i, W.cell? ⟨w.heap.size, i, none⟩ = (#[.slice a l c, .int .i64 x.off, .int .i64 x.n, .int .i64 x.inc] : Array Value)[i]? := by intro i; rw [hW]; go_simp
  have f1 : ∀ i, W.frozen? ⟨w.heap.size, i, none⟩ = false := by intro i; rw [hW]; go_simp
  have s2 : w.heap.size + 1 < W.heap.size := by rw [hW]; simp only [World.size_alloc]; omega
  have b2 : ∀ i, W.cell? ⟨w.heap.size + 1, i, none⟩ = (#[.slice none 0 0, .int .i64 0, .int .i64 0, .int .i64 0, .int .i64 0] : Array Value)[i]? := by intro i; rw [hW]; go_simp
  have f2 : ∀ i, W.frozen? ⟨w.heap.size + 1, i, none⟩ = false := by intro i; rw [hW]; go_simp
  have g0 : Grew w W := by rw [hW]; exact ((Grew.refl _).alloc _).alloc _
  clear hW
  go_wp2
  refine bodyPost_ret (v := .agg #[.slice a l c, .int .i64 x.off, .int .i64 1, .int .i64 x.n, .int .i64 x.inc]) (by simp [results, Try.results137, go_sem, *]) rfl ?_
  exact ⟨rfl, by (show Grew _ _; repeat (first | (with_reducible exact Grew.refl _) | (with_reducible assumption) | (with_reducible exact Grew.same_o) | (with_reducible exact Grew.app_o) | (with_reducible refine Grew.ext ?_ _ _) | (with_reducible refine Grew.alloc ?_ _) | ((with_reducible refine Grew.setCell ?_ ?_ _); rotate_left; (focus (dsimp only; first | omega | (simp only [size_ext, World.size_alloc, Array.size_append]; omega)))) | (with_reducible refine Grew.drewN ?_ _) | (with_reducible refine Grew.drew ?_)))⟩
theorem hmf (fn : Fn) (first cap : Array Value) (w : World) : (Instr.makeFunc fn first cap).run Try.prog w = .ok (.func fn first cap) w := rfl
/-- What a closure of ger.each does at a place. -/
def DoesAt (w : World) (m : MatM) (g : Nat) (q1 q2 q3 : Value) (F : Nat → Nat → Nat → Nat) : Prop :=
  ∀ w' L s, But w [g] w' → FW w' g L → Hold m.place m.rows.toNat m.cols.toNat m.ws L s → ∀ i j : Nat, (i : Int) < m.rows → (j : Int) < m.cols →
    Calls Try.prog 139 #[.int .i64 i, .int .i64 j, .pointer (some ⟨g, (m.off + j * m.ld + i).toNat, none⟩), q1, q2, q3] w' (fun e w2 => e = .returned (.tuple #[]) ∧ Wrote w' w2 g (L.set (m.place i j) (F i j (s i j))))
def stepF (F : Nat → Nat → Nat → Nat) (s : Nat → Nat → Nat) (j i : Nat) (r c : Nat) : Nat := if c < j ∨ (c = j ∧ r < i) then F r c (s r c) else s r c
set_option maxRecDepth 100000 in
set_option maxHeartbeats 2000000 in
/-- ger.each. -/
theorem each_any (m : MatM) (g ca : Nat) (q1 q2 q3 : Value) (F : Nat → Nat → Nat → Nat) (w : World) (hF : FW w g m.ws) (hm : m.good = true) (hwm : m.wf) (hlm : m.ws.length ≤ 1000000) (hr : m.rows ≤ 1000) (hc : m.cols ≤ 1000)
    (hdo : DoesAt w m g q1 q2 q3 F) :
   Calls Try.prog 138 #[.agg #[.slice (some ⟨g, 0, none⟩) m.ws.length ca, .int .i64 m.off, .int .i64 m.rows, .int .i64 m.cols, .int .i64 m.ld], .func (.func 139) #[] #[q1, q2, q3]] w
     (fun e w' => e = .returned (.tuple #[]) ∧ But w [g] w' ∧ ∃ L, FW w' g L ∧ Hold m.place m.rows.toNat m.cols.toNat m.ws L (fun i j => F i j (m.num i j))) := by
  have hn := MatM.good_n hm
  have hltg := hF.lt
  have hpl := MatM.places hm
  have Hm := hid hm
  have hcl : ∀ w', FS w' (.slice (some ⟨g, 0, none⟩) m.ws.length ca) m.ws → True := fun _ _ => trivial
  have hcolA : ∀ (j : Nat) (L : List Nat) w', L.length = m.ws.length → FW w' g L → (j : Int) < m.cols → 0 < m.rows → Calls Try.prog 149 #[.agg #[.slice (some ⟨g, 0, none⟩) m.ws.length ca, .int .i64 m.off, .int .i64 m.rows, .int .i64 m.cols, .int .i64 m.ld], .int .i64 j] w'
      (fun e w2 => e = .returned (.agg #[.slice (some ⟨g, 0, none⟩) m.ws.length ca, .int .i64 (m.off + j * m.ld), .int .i64 m.rows, .int .i64 1]) ∧ ∃ o n, w2 = ext w' o n) := fun j L w' hl h hj h0 => by
    have h1 := h.fs (by omega) ca
    rw [hl] at h1
    have := col_any (withL m L) (.slice (some ⟨g, 0, none⟩) m.ws.length ca) j w' h1 (by rw [withL_good hl]; exact hm) hwm hj
    have e : (colV (withL m L) j).off = m.off + j * m.ld := by unfold colV withL; simp [h0]
    rw [e] at this
    exact this
  by_cases h0 : m.rows = 0
  · have d0 : (m.rows == 0) = true := by simpa using h0
    have hh : Hold m.place m.rows.toNat m.cols.toNat m.ws m.ws (fun i j => F i j (m.num i j)) := ⟨rfl, fun i j hi hj => by omega, fun _ _ => rfl⟩
    clear hdo hm hwm
    go_enter Try.func138, Try.ntmps138
    refine seq_stop ?_
    go_wp2
    refine stop_go (fun W hW => ?_)
    have s1 : w.heap.size < W.heap.size := by rw [hW]; simp only [World.size_alloc]; omega
    have b1 : ∀ i, W.cell? ⟨w.heap.size, i, none⟩ = (#[.slice (some ⟨g, 0, none⟩) m.ws.length ca, .int .i64 m.off, .int .i64 m.rows, .int .i64 m.cols, .int .i64 m.ld] : Array Value)[i]? := by intro i; rw [hW]; go_simp
    have g0 : Grew w W := by rw [hW]; exact (Grew.refl _).alloc _
    clear hW
    go_wp2
    refine bodyPost_ret (v := .tuple #[]) (by simp [results, Try.results138, go_sem, *]) rfl ?_
    exact ⟨rfl, (But.refl w [g]).grew (by (show Grew _ _; repeat (first | (with_reducible exact Grew.refl _) | (with_reducible assumption) | (with_reducible exact Grew.same_o) | (with_reducible exact Grew.app_o) | (with_reducible refine Grew.ext ?_ _ _) | (with_reducible refine Grew.alloc ?_ _) | ((with_reducible refine Grew.setCell ?_ ?_ _); rotate_left; (focus (dsimp only; first | omega | (simp only [size_ext, World.size_alloc, Array.size_append]; omega)))) | (with_reducible refine Grew.drewN ?_ _) | (with_reducible refine Grew.drew ?_)))), m.ws, hF.grew (by (show Grew _ _; repeat (first | (with_reducible exact Grew.refl _) | (with_reducible assumption) | (with_reducible exact Grew.same_o) | (with_reducible exact Grew.app_o) | (with_reducible refine Grew.ext ?_ _ _) | (with_reducible refine Grew.alloc ?_ _) | ((with_reducible refine Grew.setCell ?_ ?_ _); rotate_left; (focus (dsimp only; first | omega | (simp only [size_ext, World.size_alloc, Array.size_append]; omega)))) | (with_reducible refine Grew.drewN ?_ _) | (with_reducible refine Grew.drew ?_)))), hh⟩
  · have d0 : (m.rows == 0) = false := by simpa using h0
    have h1 : 0 < m.rows := by omega
    clear hm hwm
    go_enter Try.func138, Try.ntmps138
    refine seq_stop ?_
    go_wp2
    refine stop_go (fun W hW => ?_)
    have s1 : w.heap.size < W.heap.size := by rw [hW]; simp only [World.size_alloc]; omega
    have b1 : ∀ i, W.cell? ⟨w.heap.size, i, none⟩ = (#[.slice (some ⟨g, 0, none⟩) m.ws.length ca, .int .i64 m.off, .int .i64 m.rows, .int .i64 m.cols, .int .i64 m.ld] : Array Value)[i]? := by intro i; rw [hW]; go_simp
    have g0 : Grew w W := by rw [hW]; exact (Grew.refl _).alloc _
    clear hW
    have zW := g0.below.size
    have bw : ∀ w', But W [g] w' → But w [g] w' := fun w' h => ((But.refl w [g]).grew g0).trans h (fun _ hb => .inl hb)
    have hFW : FW W g m.ws := hF.grew g0
    have cU : ∀ w', But W [g] w' → ∀ i, w'.cell? ⟨w.heap.size, i, none⟩ = (#[.slice (some ⟨g, 0, none⟩) m.ws.length ca, .int .i64 m.off, .int .i64 m.rows, .int .i64 m.cols, .int .i64 m.ld] : Array Value)[i]? := fun w' h i => (h.cell s1 (by simp; omega)).trans (b1 i)
    go_wp2
    go_loopw [12] (fun c wr => ∃ (j : Nat) (L : List Nat), (j : Int) ≤ m.cols ∧ c = .int .i64 j ∧ But W [g] wr ∧ FW wr g L ∧ Hold m.place m.rows.toNat m.cols.toNat m.ws L (stepF F m.num j 0)) (fun c _ => (m.cols - intOf c).toNat)
    case atStart => exact ⟨0, m.ws, hn.2.1, rfl, But.refl _ _, hFW, MatM.hold.congr fun i j _ _ => by simp [stepF]⟩
    case round =>
      obtain ⟨j, L, hj, rfl, hB, hL, hH⟩ := hrel
      have tT := cU _ hB
      have zB := hB.size
      have kT : w.heap.size < wr.heap.size := by omega
      by_cases hlt : (j : Int) < m.cols
      · have hlt' := hid hlt
        have hcj := fun w' (h : FW w' g L) => hcolA j L w' hH.len h hlt h1
        go_wp2_with (first | (go_at_call 149; ((with_reducible refine (hcj _ hL).mono ?_); rintro e w1 ⟨rfl, oc, nc, rfl⟩)))
        refine name_any (fun V hV => ?_)
        have gV : Grew wr V := by rw [← hV]; (show Grew _ _; repeat (first | (with_reducible exact Grew.refl _) | (with_reducible assumption) | (with_reducible exact Grew.same_o) | (with_reducible exact Grew.app_o) | (with_reducible refine Grew.ext ?_ _ _) | (with_reducible refine Grew.alloc ?_ _) | ((with_reducible refine Grew.setCell ?_ ?_ _); rotate_left; (focus (dsimp only; first | omega | (simp only [size_ext, World.size_alloc, Array.size_append]; omega)))) | (with_reducible refine Grew.drewN ?_ _) | (with_reducible refine Grew.drew ?_)))
        have BV : But W [g] V := hB.grew gV
        have cT : ∀ i, V.cell? ⟨wr.heap.size + oc.size, i, none⟩ = (#[.slice (some ⟨g, 0, none⟩) m.ws.length ca, .int .i64 (m.off + j * m.ld), .int .i64 m.rows, .int .i64 1] : Array Value)[i]? := by subst hV; intro i; go_simp
        have kV : wr.heap.size + oc.size < V.heap.size := by rw [← hV]; simp only [World.size_alloc, size_ext]; omega
        obtain ⟨T, hT⟩ : ∃ T, wr.heap.size + oc.size = T := ⟨_, rfl⟩
        have zT : wr.heap.size ≤ T := by omega
        rw [hT] at cT kV
        simp only [hT]
        have ltg2 := hL.lt
        have cV : ∀ w', But V [g] w' → ∀ i, w'.cell? ⟨T, i, none⟩ = (#[.slice (some ⟨g, 0, none⟩) m.ws.length ca, .int .i64 (m.off + j * m.ld), .int .i64 m.rows, .int .i64 1] : Array Value)[i]? := fun w' h i => (h.cell kV (by simp; omega)).trans (cT i)
        have bV : ∀ w', But V [g] w' → But W [g] w' := fun w' h => BV.trans h (fun _ hb => .inl hb)
        have hLV : FW V g L := hL.grew gV
        clear hV hT cT
        go_wp2
        go_loopw [20] (fun c wr => ∃ (i : Nat) (L : List Nat), (i : Int) ≤ m.rows ∧ c = .int .i64 i ∧ But V [g] wr ∧ FW wr g L ∧ Hold m.place m.rows.toNat m.cols.toNat m.ws L (stepF F m.num j i)) (fun c _ => (m.rows - intOf c).toNat)
        case atStart => exact ⟨0, L, by omega, rfl, But.refl _ _, hLV, hH⟩
        case round =>
          obtain ⟨i, L2, hi, rfl, hB2, hL2, hH2⟩ := hrel
          have tV := cV _ hB2
          have zB2 := hB2.size
          have kT2 : T < wr.heap.size := by omega
          by_cases hli : (i : Int) < m.rows
          · have hp := MatM.good_place Hm.out hli hlt'.out
            have r1 : IntKind.i64.wrap (m.off + j * m.ld + i) = m.off + j * m.ld + i := IntWalk.i64_in _ (by omega)
            have e1 : 0 ≤ m.off + j * m.ld + i := by omega
            have e2 : m.off + j * m.ld + i < m.ws.length := by omega
            have hcall := hdo wr L2 _ (bw _ (bV _ hB2)) hL2 hH2 i j hli hlt'.out
            go_wp2_with (first | (go_at_call 139; ((with_reducible refine (hcall).mono ?_); rintro e w1 ⟨rfl, hw1⟩)))
            go_roundw
            case rel =>
              refine ⟨i + 1, _, by omega, by go_num, hB2.wrote hw1 (.inl (by simp)), hw1.fw hL2, (hH2.set hpl (by omega) (by have := hlt'.out; omega)).congr fun r c hr hc => ?_⟩
              unfold stepF
              by_cases hrc : r = i ∧ c = j
              · obtain ⟨rfl, rfl⟩ := hrc
                simp
              · rw [if_neg hrc]
                by_cases h2 : c < j ∨ (c = j ∧ r < i)
                · rw [if_pos h2, if_pos (by omega)]
                · rw [if_neg h2, if_neg (by omega)]
            case measure => simp [intOf]; omega
          · have e : i = m.rows.toNat := by omega
            go_wp2
            go_roundw
            case rel =>
              refine ⟨j + 1, L2, by have := hlt'.out; omega, by go_num, bV _ hB2, hL2, hH2.congr fun r c hr hc => ?_⟩
              unfold stepF
              by_cases h2 : c < j ∨ (c = j ∧ r < i)
              · rw [if_pos h2, if_pos (by omega)]
              · rw [if_neg h2, if_neg (by omega)]
            case measure => (have := hlt'.out; simp [intOf]; omega)
      · go_wp2
        go_end0
        refine ⟨rfl, bw _ hB, L, hL, hH.congr fun r c hr hc => ?_⟩
        unfold stepF
        rw [if_pos (by omega)]
end Go.Proofs.Ytcmggfpcbijcjaa
end
section
/-
  Plain: the steps of a triangular system, column by column and row by row, come to the same.
-/
set_option linter.unusedSimpArgs false
set_option linter.unusedVariables false
namespace Sedge
def lessF (s : Nat → Nat) (i k a : Nat) : Nat → Nat := fun r => if r = i then fsub (s i) (fmul a (s k)) else s r
def divF (s : Nat → Nat) (i a : Nat) : Nat → Nat := fun r => if r = i then fdiv (s i) a else s r
theorem lessF_eq {s : Nat → Nat} {i k a : Nat} : lessF s i k a i = fsub (s i) (fmul a (s k)) := by simp [lessF]
theorem lessF_ne {s : Nat → Nat} {i k a r : Nat} (h : r ≠ i) : lessF s i k a r = s r := by simp [lessF, h]
theorem divF_eq {s : Nat → Nat} {i a : Nat} : divF s i a i = fdiv (s i) a := by simp [divF]
theorem divF_ne {s : Nat → Nat} {i a r : Nat} (h : r ≠ i) : divF s i a r = s r := by simp [divF, h]
section
variable (M : Nat → Nat → Nat)
/-- Row i: less its first t products, the columns in their order. -/
def rowIn (s : Nat → Nat) (i : Nat) : Nat → (Nat → Nat)
  | 0 => s
  | t + 1 => lessF (rowIn s i t) i t (M i t)
def rowAll (s : Nat → Nat) : Nat → (Nat → Nat)
  | 0 => s
  | i + 1 => rowIn M (rowAll s i) i i
/-- Column j: out of the t rows below it. -/
def colIn (s : Nat → Nat) (j : Nat) : Nat → (Nat → Nat)
  | 0 => s
  | t + 1 => lessF (colIn s j t) (j + 1 + t) j (M (j + 1 + t) j)
def colAll (n : Nat) (s : Nat → Nat) : Nat → (Nat → Nat)
  | 0 => s
  | j + 1 => colIn M (colAll n s j) j (n - 1 - j)
variable {M} {s : Nat → Nat}
theorem rowIn_ne {i r : Nat} (h : r ≠ i) : ∀ t, rowIn M s i t r = s r
  | 0 => rfl
  | t + 1 => by unfold rowIn; rw [lessF_ne h, rowIn_ne h t]
theorem rowAll_ge {r : Nat} : ∀ k, k ≤ r → rowAll M s k r = s r
  | 0, _ => rfl
  | k + 1, h => by unfold rowAll; rw [rowIn_ne (by omega), rowAll_ge k (by omega)]
theorem rowAll_gt {r : Nat} : ∀ k, r < k → rowAll M s k r = rowAll M s (r + 1) r
  | 0, h => absurd h (by omega)
  | k + 1, h => by
    by_cases e : r = k
    · subst e; rfl
    · show rowIn M (rowAll M s k) k k r = _
      rw [rowIn_ne e, rowAll_gt k (by omega)]
/-- Row r less t products. -/
def gRow (M : Nat → Nat → Nat) (s : Nat → Nat) (r t : Nat) : Nat := rowIn M (rowAll M s r) r t r
theorem gRow_zero {r : Nat} : gRow M s r 0 = s r := rowAll_ge r (Nat.le_refl r)
theorem gRow_succ {r t : Nat} (h : t < r) : gRow M s r (t + 1) = fsub (gRow M s r t) (fmul (M r t) (gRow M s t t)) := by
  show lessF (rowIn M (rowAll M s r) r t) r t (M r t) r = _
  rw [lessF_eq, rowIn_ne (by omega : t ≠ r), rowAll_gt r h]
  rfl
theorem rowAll_g {n r : Nat} (h : r < n) : rowAll M s n r = gRow M s r r := by rw [rowAll_gt n h]; rfl
theorem colIn_eq {v : Nat → Nat} {n j : Nat} (hs : ∀ r, r < n → s r = gRow M v r (min r j)) (hj : j < n) : ∀ t, j + t < n → ∀ r, r < n → colIn M s j t r = if j < r ∧ r ≤ j + t then gRow M v r (j + 1) else s r
  | 0, _, r, _ => by rw [if_neg (by omega)]; rfl
  | t + 1, ht, r, hr => by
    show lessF (colIn M s j t) (j + 1 + t) j (M (j + 1 + t) j) r = _
    have ih := colIn_eq hs hj t (by omega)
    by_cases e : r = j + 1 + t
    · subst e
      rw [lessF_eq, ih _ (by omega), if_neg (by omega), ih j hj, if_neg (by omega), if_pos (by omega), hs _ (by omega), hs j hj, Nat.min_self, Nat.min_eq_right (by omega), gRow_succ (by omega)]
    · rw [lessF_ne e, ih r hr]
      by_cases h1 : j < r ∧ r ≤ j + t
      · rw [if_pos h1, if_pos (by omega)]
      · rw [if_neg h1, if_neg (by omega)]
theorem colAll_eq {n : Nat} : ∀ j, j ≤ n → ∀ r, r < n → colAll M n s j r = gRow M s r (min r j)
  | 0, _, r, _ => by rw [Nat.min_zero, gRow_zero]; rfl
  | j + 1, hj, r, hr => by
    have ih := colAll_eq (n := n) j (by omega)
    show colIn M (colAll M n s j) j (n - 1 - j) r = _
    rw [colIn_eq ih (by omega) _ (by omega) r hr]
    by_cases h1 : j < r
    · rw [if_pos (by omega), Nat.min_eq_right (by omega)]
    · rw [if_neg (by omega), ih r hr, Nat.min_eq_left (by omega), Nat.min_eq_left (by omega)]
/-- Kind 1: column by column is row by row. -/
theorem col_row {n r : Nat} (h : r < n) : colAll M n s n r = rowAll M s n r := by
  rw [colAll_eq n (Nat.le_refl n) r h, Nat.min_eq_left (by omega), rowAll_g h]
end
section
variable (M : Nat → Nat → Nat) (n : Nat)
def rowIn2 (s : Nat → Nat) (i : Nat) : Nat → (Nat → Nat)
  | 0 => s
  | t + 1 => lessF (rowIn2 s i t) i (n - 1 - t) (M i (n - 1 - t))
def rowAll2 (s : Nat → Nat) : Nat → (Nat → Nat)
  | 0 => s
  | k + 1 => divF (rowIn2 M n (rowAll2 s k) (n - 1 - k) k) (n - 1 - k) (M (n - 1 - k) (n - 1 - k))
def colIn2 (s : Nat → Nat) (j : Nat) : Nat → (Nat → Nat)
  | 0 => s
  | t + 1 => lessF (colIn2 s j t) t j (M t j)
def colAll2 (s : Nat → Nat) : Nat → (Nat → Nat)
  | 0 => s
  | k + 1 => colIn2 M (divF (colAll2 s k) (n - 1 - k) (M (n - 1 - k) (n - 1 - k))) (n - 1 - k) (n - 1 - k)
variable {M n} {s : Nat → Nat}
theorem rowIn2_ne {i r : Nat} (h : r ≠ i) : ∀ t, rowIn2 M n s i t r = s r
  | 0 => rfl
  | t + 1 => by unfold rowIn2; rw [lessF_ne h, rowIn2_ne h t]
theorem rowAll2_ge {r : Nat} (hr : r < n) : ∀ k, k ≤ n - 1 - r → rowAll2 M n s k r = s r
  | 0, _ => rfl
  | k + 1, h => by unfold rowAll2; rw [divF_ne (by omega), rowIn2_ne (by omega), rowAll2_ge hr k (by omega)]
theorem rowAll2_gt {r : Nat} (hr : r < n) : ∀ k, n - 1 - r < k → k ≤ n → rowAll2 M n s k r = rowAll2 M n s (n - 1 - r + 1) r
  | 0, h, _ => absurd h (by omega)
  | k + 1, h, hk => by
    by_cases e : k = n - 1 - r
    · subst e; rfl
    · show divF (rowIn2 M n (rowAll2 M n s k) (n - 1 - k) k) (n - 1 - k) _ r = _
      rw [divF_ne (by omega), rowIn2_ne (by omega), rowAll2_gt hr k (by omega) (by omega)]
def gRow2 (M : Nat → Nat → Nat) (n : Nat) (s : Nat → Nat) (r t : Nat) : Nat := rowIn2 M n (rowAll2 M n s (n - 1 - r)) r t r
def fRow2 (M : Nat → Nat → Nat) (n : Nat) (s : Nat → Nat) (r : Nat) : Nat := fdiv (gRow2 M n s r (n - 1 - r)) (M r r)
theorem gRow2_zero {r : Nat} (hr : r < n) : gRow2 M n s r 0 = s r := rowAll2_ge hr _ (Nat.le_refl _)
theorem rowAll2_f {r k : Nat} (hr : r < n) (h : n - 1 - r < k) (hk : k ≤ n) : rowAll2 M n s k r = fRow2 M n s r := by
  rw [rowAll2_gt hr k h hk]
  show divF (rowIn2 M n (rowAll2 M n s (n - 1 - r)) (n - 1 - (n - 1 - r)) (n - 1 - r)) (n - 1 - (n - 1 - r)) (M (n - 1 - (n - 1 - r)) (n - 1 - (n - 1 - r))) r = _
  rw [show n - 1 - (n - 1 - r) = r by omega, divF_eq]; rfl
theorem gRow2_succ {r t : Nat} (hr : r < n) (h : t < n - 1 - r) : gRow2 M n s r (t + 1) = fsub (gRow2 M n s r t) (fmul (M r (n - 1 - t)) (fRow2 M n s (n - 1 - t))) := by
  show lessF (rowIn2 M n (rowAll2 M n s (n - 1 - r)) r t) r (n - 1 - t) (M r (n - 1 - t)) r = _
  rw [lessF_eq, rowIn2_ne (by omega : n - 1 - t ≠ r), rowAll2_f (by omega) (by omega) (by omega)]
  rfl
theorem colIn2_eq {k j : Nat} {u : Nat → Nat} (hj : j = n - 1 - k) (hk : k < n) (hu : ∀ r, r < j → u r = gRow2 M n s r k) (huj : u j = fRow2 M n s j) : ∀ t, t ≤ j → ∀ r, r < n → colIn2 M u j t r = if r < t then gRow2 M n s r (k + 1) else u r
  | 0, _, r, _ => by rw [if_neg (by omega)]; rfl
  | t + 1, ht, r, hr => by
    show lessF (colIn2 M u j t) t j (M t j) r = _
    have ih := colIn2_eq hj hk hu huj t (by omega)
    by_cases e : r = t
    · subst e
      rw [lessF_eq, ih r hr, if_neg (by omega), ih j (by omega), if_neg (by omega), if_pos (by omega), hu r (by omega), huj, gRow2_succ hr (by omega), hj]
    · rw [lessF_ne e, ih r hr]
      by_cases h1 : r < t
      · rw [if_pos h1, if_pos (by omega)]
      · rw [if_neg h1, if_neg (by omega)]
theorem colAll2_eq : ∀ k, k ≤ n → ∀ r, r < n → colAll2 M n s k r = if n - 1 - r < k then fRow2 M n s r else gRow2 M n s r k
  | 0, _, r, hr => by rw [if_neg (by omega), gRow2_zero hr]; rfl
  | k + 1, hk, r, hr => by
    have ih := colAll2_eq k (by omega)
    show colIn2 M (divF (colAll2 M n s k) (n - 1 - k) (M (n - 1 - k) (n - 1 - k))) (n - 1 - k) (n - 1 - k) r = _
    have e1 : n - 1 - (n - 1 - k) = k := by omega
    rw [colIn2_eq (k := k) (s := s) rfl (by omega) (fun q hq => by rw [divF_ne (by omega), ih q (by omega), if_neg (by omega)]) (by rw [divF_eq, ih _ (by omega), if_neg (by omega)]; unfold fRow2; rw [e1]) _ (Nat.le_refl _) r hr]
    by_cases h1 : r < n - 1 - k
    · rw [if_pos h1, if_neg (by omega)]
    · rw [if_neg h1, if_pos (by omega)]
      by_cases h2 : r = n - 1 - k
      · subst h2
        rw [divF_eq, ih _ (by omega), if_neg (by omega)]; unfold fRow2; rw [e1]
      · rw [divF_ne h2, ih r hr, if_pos (by omega)]
/-- Kind 2: column by column is row by row. -/
theorem col_row2 {r : Nat} (h : r < n) : colAll2 M n s n r = rowAll2 M n s n r := by
  rw [colAll2_eq n (Nat.le_refl n) r h, if_pos (by omega), rowAll2_f h (by omega) (Nat.le_refl n)]
end
end Sedge
end
section
/-
  Plain: a vector's numbers as a function; the four kinds of a triangular system.
-/
set_option linter.unusedSimpArgs false
set_option linter.unusedVariables false
open Go.Proofs.Ytcmggfpcbijcjaa
namespace Sedge
/-- The list L is x's, but its numbers are s. -/
structure VH (x : VecM) (L : List Nat) (s : Nat → Nat) : Prop where
  len : L.length = x.ws.length
  get : ∀ r : Nat, (r : Int) < x.n → L.getD (x.place r) 0 = s r
  rest : ∀ q, (∀ r : Nat, (r : Int) < x.n → x.place r ≠ q) → L.getD q 0 = x.ws.getD q 0
theorem VH.start (x : VecM) : VH x x.ws x.num := ⟨rfl, fun _ _ => rfl, fun _ _ => rfl⟩
theorem VH.set {x : VecM} {L : List Nat} {s : Nat → Nat} (h : VH x L s) (hx : x.right = true) {i v : Nat} (hi : (i : Int) < x.n) : VH x (L.set (x.place i) v) (fun r => if r = i then v else s r) := by
  refine ⟨by simp [h.len], fun r hr => ?_, fun q hq => ?_⟩
  · by_cases e : r = i
    · subst e; rw [getD_set_eq (by rw [h.len]; exact VecM.place_lt hx hi)]; simp
    · rw [getD_set_ne' (fun e' => e (VecM.place_inj hx hr hi e'.symm)), h.get r hr]; simp [e]
  · rw [getD_set_ne' (hq i hi), h.rest q hq]
theorem VH.less {x : VecM} {L : List Nat} {s : Nat → Nat} (h : VH x L s) (hx : x.right = true) {i k a : Nat} (hi : (i : Int) < x.n) (hk : (k : Int) < x.n) :
    VH x (L.set (x.place i) (fsub (L.getD (x.place i) 0) (fmul a (L.getD (x.place k) 0)))) (lessF s i k a) := by
  rw [h.get i hi, h.get k hk]
  exact h.set hx hi
theorem VH.div {x : VecM} {L : List Nat} {s : Nat → Nat} (h : VH x L s) (hx : x.right = true) {i a : Nat} (hi : (i : Int) < x.n) : VH x (L.set (x.place i) (fdiv (L.getD (x.place i) 0) a)) (divF s i a) := by
  rw [h.get i hi]; exact h.set hx hi
theorem VH.congr {x : VecM} {L : List Nat} {s t : Nat → Nat} (h : VH x L s) (e : ∀ r : Nat, (r : Int) < x.n → s r = t r) : VH x L t := ⟨h.len, fun r hr => (h.get r hr).trans (e r hr), h.rest⟩
theorem VH.final {x : VecM} {L : List Nat} {s : Nat → Nat} (h : VH x L s) (hx : x.right = true) : L = VecMwrite x ((List.range x.n.toNat).map s) := by
  have hn := VecM.right_n hx
  have hm : min x.n.toNat ((List.range x.n.toNat).map s).length = x.n.toNat := by simp
  unfold VecMwrite VecMwriteTo
  rw [hm]
  apply List.ext_getElem?
  intro q
  have hl : L.length = (writes x.ws x.place (fun t => ((List.range x.n.toNat).map s).getD t 0) x.n.toNat).length := by rw [writes_length, h.len]
  by_cases hq : q < L.length
  · have e : L.getD q 0 = (writes x.ws x.place (fun t => ((List.range x.n.toNat).map s).getD t 0) x.n.toNat).getD q 0 := by
      by_cases hp : ∃ r : Nat, (r : Int) < x.n ∧ x.place r = q
      · obtain ⟨r, hr, rfl⟩ := hp
        rw [h.get r hr, writes_at x.n.toNat (fun a b ha hb e => VecM.place_inj hx (by omega) (by omega) e) (fun a ha => VecM.place_lt hx (by omega)) r (by omega)]
        rw [List.getD_eq_getElem?_getD, List.getElem?_map, List.getElem?_range (by omega)]; rfl
      · have hp' : ∀ r : Nat, (r : Int) < x.n → x.place r ≠ q := fun r hr e => hp ⟨r, hr, e⟩
        rw [h.rest q hp', writes_other x.n.toNat fun t ht => hp' t (by omega)]
    rw [List.getD_eq_getElem?_getD, List.getD_eq_getElem?_getD, List.getElem?_eq_getElem hq, List.getElem?_eq_getElem (by omega)] at e
    rw [List.getElem?_eq_getElem hq, List.getElem?_eq_getElem (by omega)]
    simpa using e
  · rw [List.getElem?_eq_none (by omega), List.getElem?_eq_none (by omega)]
section
variable (M : Nat → Nat → Nat) (n : Nat)
def rowIn3 (s : Nat → Nat) (i : Nat) : Nat → (Nat → Nat)
  | 0 => s
  | t + 1 => lessF (rowIn3 s i t) i (i + 1 + t) (M (i + 1 + t) i)
def rowAll3 (s : Nat → Nat) : Nat → (Nat → Nat)
  | 0 => s
  | k + 1 => rowIn3 M (rowAll3 s k) (n - 1 - k) k
def rowIn4 (s : Nat → Nat) (i : Nat) : Nat → (Nat → Nat)
  | 0 => s
  | t + 1 => lessF (rowIn4 s i t) i t (M t i)
def rowAll4 (s : Nat → Nat) : Nat → (Nat → Nat)
  | 0 => s
  | i + 1 => divF (rowIn4 M (rowAll4 s i) i i) i (M i i)
/-- What a system of a kind comes to (as the document says it: row by row). -/
def solveF (k : Int) (s : Nat → Nat) : Nat → Nat :=
  if k = 1 then rowAll M s n else if k = 2 then rowAll2 M n s n else if k = 3 then rowAll3 M n s n else rowAll4 M s n
end
end Sedge
end
section
/-
  Contracts: trsv.zero; the system's num, at, less.
-/
set_option linter.unusedSimpArgs false
set_option linter.unusedVariables false
open Go Go.RowKit Sedge
namespace Go.Proofs.Ytcmggfpcbijcjaa
def feq0 (x : Nat) : Bool := D64.order x 0 == some .eq
def zeroTo (k : Int) (x : MatM) (n : Nat) : Bool := (decide (k = 2) || decide (k = 4)) && (List.range n).any fun i => feq0 (x.num i i)
theorem zeroTo_succ (k : Int) (x : MatM) (n : Nat) : zeroTo k x (n + 1) = (zeroTo k x n || ((decide (k = 2) || decide (k = 4)) && feq0 (x.num n n))) := by
  unfold zeroTo; rw [List.range_succ, List.any_append]
  cases (decide (k = 2) || decide (k = 4)) <;> simp
theorem zeroTo_mono {k : Int} {x : MatM} {m n : Nat} (h : zeroTo k x m = true) (hmn : m ≤ n) : zeroTo k x n = true := by
  unfold zeroTo at *
  simp only [Bool.and_eq_true, List.any_eq_true, List.mem_range] at *
  obtain ⟨h1, t, h2, h3⟩ := h
  exact ⟨h1, t, by omega, h3⟩
set_option maxRecDepth 100000 in
set_option maxHeartbeats 1000000 in
/-- trsv.zero. -/
theorem zero_any (k : Int) (x : MatM) (D : Value) (w : World) (hD : FS w D x.ws) (hx : x.good = true) (hwf : x.wf) (hsq : x.rows = x.cols) (hr : x.rows ≤ 1000) (hl : x.ws.length ≤ 1000000) :
   Calls Try.prog 153 #[.int .i64 k, .agg #[D, .int .i64 x.off, .int .i64 x.rows, .int .i64 x.cols, .int .i64 x.ld]] w (fun e w' => e = .returned (.bool (zeroTo k x x.rows.toNat)) ∧ ∃ o n, w' = ext w o n) := by
  have hn := x.good_n hx
  have Hsq := hid hsq
  have hat : ∀ i : Nat, (i : Int) < x.rows → ∀ w', FS w' D x.ws → Calls Try.prog 186 #[.agg #[D, .int .i64 x.off, .int .i64 x.rows, .int .i64 x.cols, .int .i64 x.ld], .int .i64 i, .int .i64 i] w' (fun e w2 => ∃ b, e = .returned (.float .f64 b) ∧ IsF b (x.num i i) ∧ ∃ o n, w2 = ext w' o n) := fun i hi w' h => vat_any x D i i w' h hx hwf hi (by have := Hsq.out; omega) hl
  clear hx hwf hsq
  by_cases hk : k = 2 ∨ k = 4
  · have hkk : (decide (k = 2) || decide (k = 4)) = true := by simpa using hk
    have Hk := hid hkk
    go_enter Try.func153, Try.ntmps153
    refine seq_stop ?_
    go_wp2
    refine stop_go (fun W hW => ?_)
    have s1 : w.heap.size < W.heap.size := by rw [hW]; simp only [World.size_alloc]; omega
    have b1 : ∀ i, W.cell? ⟨w.heap.size, i, none⟩ = (#[D, .int .i64 x.off, .int .i64 x.rows, .int .i64 x.cols, .int .i64 x.ld] : Array Value)[i]? := by intro i; rw [hW]; go_simp
    have g0 : Grew w W := by rw [hW]; exact (Grew.refl _).alloc _
    clear hW
    have hDW := hD.grew g0
    go_wp2
    go_loopw [8] (fun c wr => ∃ (i : Nat) (o : Array Obj) (n : Nat), (i : Int) ≤ x.rows ∧ c = .int .i64 i ∧ wr = ext W o n ∧ zeroTo k x i = false) (fun c _ => x.rows.toNat - (intOf c).toNat)
    case atStart => exact ⟨0, #[], _, hn.1, rfl, ext_zero.symm, by simp [zeroTo]⟩
    case round =>
      obtain ⟨i, o2, n2, hi, rfl, hwr, hz⟩ := hrel
      subst hwr
      have Hz := hid hz
      clear hz
      by_cases hlt : (i : Int) < x.rows
      · have hS := hid (zeroTo_succ k x i)
        have hlt' := hid hlt
        have hati := hat i hlt
        clear hat
        cases hz : feq0 (x.num i i)
        · have h1 : zeroTo k x (i + 1) = false := by rw [hS.out, Hz.out, hz]; simp
          have H1 := hid h1
          clear h1
          rcases hk with hk2 | hk4
          · have d1 : (k == 2) = true := by simpa using hk2
            clear hk2 hkk
            go_wp2_with (first | (go_at_call 186; ((with_reducible refine (hati _ ?_).mono ?_); (focus (first | (with_reducible assumption) | (with_reducible refine FS.ext ?_ _ _; with_reducible assumption) | (with_reducible refine IS.ext ?_ _ _; with_reducible assumption) | (refine hDu _ ?_; with_reducible assumption) | (refine hOu _ ?_; with_reducible assumption) | (refine hDa _ ?_; with_reducible assumption) | (refine hDb _ ?_; with_reducible assumption) | (refine hDc _ ?_; with_reducible assumption) | (refine hDd _ ?_; with_reducible assumption) | (refine FW.fs ?_ (by omega) _; with_reducible assumption) | (refine WS.fs ?_; with_reducible assumption) | (refine FW.fs ?_ (by omega) _; assumption) | omega | assumption)); rintro e w1 ⟨b, rfl, hf, o3, n3, rfl⟩; (have hz' : (FloatKind.f64.format.order b 0 == some Ordering.eq) = false := by rw [← hz]; unfold feq0; rw [← hf.order isF_zero]; rfl))))
            go_roundw
            case rel => exact ⟨i + 1, _, _, by have := hlt'.out; omega, by go_num, rfl, H1.out⟩
            case measure => (have := hlt'.out; simp [intOf]; omega)
          · have d1 : (k == 2) = false := by rw [beq_eq_false_iff_ne]; omega
            have d2 : (k == 4) = true := by simpa using hk4
            clear hk4 hkk
            go_wp2_with (first | (go_at_call 186; ((with_reducible refine (hati _ ?_).mono ?_); (focus (first | (with_reducible assumption) | (with_reducible refine FS.ext ?_ _ _; with_reducible assumption) | (with_reducible refine IS.ext ?_ _ _; with_reducible assumption) | (refine hDu _ ?_; with_reducible assumption) | (refine hOu _ ?_; with_reducible assumption) | (refine hDa _ ?_; with_reducible assumption) | (refine hDb _ ?_; with_reducible assumption) | (refine hDc _ ?_; with_reducible assumption) | (refine hDd _ ?_; with_reducible assumption) | (refine FW.fs ?_ (by omega) _; with_reducible assumption) | (refine WS.fs ?_; with_reducible assumption) | (refine FW.fs ?_ (by omega) _; assumption) | omega | assumption)); rintro e w1 ⟨b, rfl, hf, o3, n3, rfl⟩; (have hz' : (FloatKind.f64.format.order b 0 == some Ordering.eq) = false := by rw [← hz]; unfold feq0; rw [← hf.order isF_zero]; rfl))))
            go_roundw
            case rel => exact ⟨i + 1, _, _, by have := hlt'.out; omega, by go_num, rfl, H1.out⟩
            case measure => (have := hlt'.out; simp [intOf]; omega)
        · have h1 : zeroTo k x (i + 1) = true := by rw [hS.out, Hk.out, hz]; simp
          have q := hid (zeroTo_mono h1 (show i + 1 ≤ x.rows.toNat by omega))
          clear h1
          rcases hk with hk2 | hk4
          · have d1 : (k == 2) = true := by simpa using hk2
            clear hk2 hkk
            go_wp2_with (first | (go_at_call 186; ((with_reducible refine (hati _ ?_).mono ?_); (focus (first | (with_reducible assumption) | (with_reducible refine FS.ext ?_ _ _; with_reducible assumption) | (with_reducible refine IS.ext ?_ _ _; with_reducible assumption) | (refine hDu _ ?_; with_reducible assumption) | (refine hOu _ ?_; with_reducible assumption) | (refine hDa _ ?_; with_reducible assumption) | (refine hDb _ ?_; with_reducible assumption) | (refine hDc _ ?_; with_reducible assumption) | (refine hDd _ ?_; with_reducible assumption) | (refine FW.fs ?_ (by omega) _; with_reducible assumption) | (refine WS.fs ?_; with_reducible assumption) | (refine FW.fs ?_ (by omega) _; assumption) | omega | assumption)); rintro e w1 ⟨b, rfl, hf, o3, n3, rfl⟩; (have hz' : (FloatKind.f64.format.order b 0 == some Ordering.eq) = true := by rw [← hz]; unfold feq0; rw [← hf.order isF_zero]; rfl))))
            go_ret
            exact ⟨ret_bool q.out.symm, by (show Grew _ _; repeat (first | (with_reducible exact Grew.refl _) | (with_reducible assumption) | (with_reducible exact Grew.same_o) | (with_reducible exact Grew.app_o) | (with_reducible refine Grew.ext ?_ _ _) | (with_reducible refine Grew.alloc ?_ _) | ((with_reducible refine Grew.setCell ?_ ?_ _); rotate_left; (focus (dsimp only; first | omega | (simp only [size_ext, World.size_alloc, Array.size_append]; omega)))) | (with_reducible refine Grew.drewN ?_ _) | (with_reducible refine Grew.drew ?_)))⟩
          · have d1 : (k == 2) = false := by rw [beq_eq_false_iff_ne]; omega
            have d2 : (k == 4) = true := by simpa using hk4
            clear hk4 hkk
            go_wp2_with (first | (go_at_call 186; ((with_reducible refine (hati _ ?_).mono ?_); (focus (first | (with_reducible assumption) | (with_reducible refine FS.ext ?_ _ _; with_reducible assumption) | (with_reducible refine IS.ext ?_ _ _; with_reducible assumption) | (refine hDu _ ?_; with_reducible assumption) | (refine hOu _ ?_; with_reducible assumption) | (refine hDa _ ?_; with_reducible assumption) | (refine hDb _ ?_; with_reducible assumption) | (refine hDc _ ?_; with_reducible assumption) | (refine hDd _ ?_; with_reducible assumption) | (refine FW.fs ?_ (by omega) _; with_reducible assumption) | (refine WS.fs ?_; with_reducible assumption) | (refine FW.fs ?_ (by omega) _; assumption) | omega | assumption)); rintro e w1 ⟨b, rfl, hf, o3, n3, rfl⟩; (have hz' : (FloatKind.f64.format.order b 0 == some Ordering.eq) = true := by rw [← hz]; unfold feq0; rw [← hf.order isF_zero]; rfl))))
            go_ret
            exact ⟨ret_bool q.out.symm, by (show Grew _ _; repeat (first | (with_reducible exact Grew.refl _) | (with_reducible assumption) | (with_reducible exact Grew.same_o) | (with_reducible exact Grew.app_o) | (with_reducible refine Grew.ext ?_ _ _) | (with_reducible refine Grew.alloc ?_ _) | ((with_reducible refine Grew.setCell ?_ ?_ _); rotate_left; (focus (dsimp only; first | omega | (simp only [size_ext, World.size_alloc, Array.size_append]; omega)))) | (with_reducible refine Grew.drewN ?_ _) | (with_reducible refine Grew.drew ?_)))⟩
      · have q := hid (show zeroTo k x x.rows.toNat = false by rw [show x.rows.toNat = i by omega]; exact Hz.out)
        clear hk hkk
        go_wp2
        go_ret
        exact ⟨ret_bool q.out.symm, by (show Grew _ _; repeat (first | (with_reducible exact Grew.refl _) | (with_reducible assumption) | (with_reducible exact Grew.same_o) | (with_reducible exact Grew.app_o) | (with_reducible refine Grew.ext ?_ _ _) | (with_reducible refine Grew.alloc ?_ _) | ((with_reducible refine Grew.setCell ?_ ?_ _); rotate_left; (focus (dsimp only; first | omega | (simp only [size_ext, World.size_alloc, Array.size_append]; omega)))) | (with_reducible refine Grew.drewN ?_ _) | (with_reducible refine Grew.drew ?_)))⟩
  · have q := hid (show zeroTo k x x.rows.toNat = false by unfold zeroTo; rw [show (decide (k = 2) || decide (k = 4)) = false by simpa using hk]; rfl)
    have d1 : (k == 2) = false := by rw [beq_eq_false_iff_ne]; omega
    have d2 : (k == 4) = false := by rw [beq_eq_false_iff_ne]; omega
    clear hk hat
    go_enter Try.func153, Try.ntmps153
    refine seq_stop ?_
    go_wp2
    refine stop_go (fun W hW => ?_)
    have s1 : w.heap.size < W.heap.size := by rw [hW]; simp only [World.size_alloc]; omega
    have b1 : ∀ i, W.cell? ⟨w.heap.size, i, none⟩ = (#[D, .int .i64 x.off, .int .i64 x.rows, .int .i64 x.cols, .int .i64 x.ld] : Array Value)[i]? := by intro i; rw [hW]; go_simp
    have g0 : Grew w W := by rw [hW]; exact (Grew.refl _).alloc _
    clear hW
    go_wp2
    go_loopw [8] (fun c wr => ∃ (i : Nat) (o : Array Obj) (n : Nat), (i : Int) ≤ x.rows ∧ c = .int .i64 i ∧ wr = ext W o n) (fun c _ => x.rows.toNat - (intOf c).toNat)
    case atStart => exact ⟨0, #[], _, hn.1, rfl, ext_zero.symm⟩
    case round =>
      obtain ⟨i, o2, n2, hi, rfl, hwr⟩ := hrel
      subst hwr
      by_cases hlt : (i : Int) < x.rows
      · go_wp2
        go_roundw
        case rel => exact ⟨i + 1, _, _, by omega, by go_num, rfl⟩
        case measure => simp [intOf]; omega
      · go_wp2
        go_ret
        exact ⟨ret_bool q.out.symm, by (show Grew _ _; repeat (first | (with_reducible exact Grew.refl _) | (with_reducible assumption) | (with_reducible exact Grew.same_o) | (with_reducible exact Grew.app_o) | (with_reducible refine Grew.ext ?_ _ _) | (with_reducible refine Grew.alloc ?_ _) | ((with_reducible refine Grew.setCell ?_ ?_ _); rotate_left; (focus (dsimp only; first | omega | (simp only [size_ext, World.size_alloc, Array.size_append]; omega)))) | (with_reducible refine Grew.drewN ?_ _) | (with_reducible refine Grew.drew ?_)))⟩
end Go.Proofs.Ytcmggfpcbijcjaa
end
section
/-
  Places clear of each other; blocks of numbers written out; small facts for the laws.
-/
set_option linter.unusedSimpArgs false
set_option linter.unusedVariables false
open Go Go.RowKit Sedge
namespace Go.Proofs.Ytcmggfpcbijcjaa
theorem meet_no {x : VecM} {m : MatM} (hx : x.right = true) (hm : m.good = true) (h : meetM (rowM x) m true = false) {r i j : Nat} (hr : (r : Int) < x.n) (hi : (i : Int) < m.rows) (hj : (j : Int) < m.cols) : x.place r ≠ m.place i j := by
  intro e
  have f1 : MatM.full (rowM x) = true := by unfold MatM.full; rw [rowM_good hx]; simp [rowM]; omega
  have f2 : MatM.full m = true := by unfold MatM.full; rw [hm]; simp; omega
  have px := VecM.right_place hx hr
  have pm := MatM.good_place hm hi hj
  have hn := VecM.right_n hx
  have hmn := m.good_n hm
  unfold VecM.place MatM.place at e
  have e' : x.off + r * x.inc = m.off + i + j * m.ld := by omega
  have k1 : (r : Int) * x.inc ≤ (x.n - 1) * x.inc := Int.mul_le_mul_of_nonneg_right (by omega) (by omega)
  have k2 : (j : Int) * m.ld ≤ (m.cols - 1) * m.ld := Int.mul_le_mul_of_nonneg_right (by omega) (by omega)
  unfold meetM spanLo spanHi at h
  rw [f1, f2] at h
  simp [rowM] at h
  omega
theorem _root_.Sedge.But.fs_ne {w w' : World} {a g c n : Nat} {ws : List Nat} (hb : But w [g] w') (h : FS w (.slice (some ⟨a, 0, none⟩) n c) ws) (hne : a ≠ g) : FS w' (.slice (some ⟨a, 0, none⟩) n c) ws := by
  obtain ⟨hl, a', cap, hv, h0, hc⟩ := h
  refine ⟨hl, a', cap, hv, h0, fun i hi => ?_⟩
  obtain ⟨blk, o, b, he, h1, h2⟩ := hc i hi
  refine ⟨blk, o, b, he, ?_, h2⟩
  have e : blk = a := by
    have e2 := hv
    simp only [Value.slice.injEq] at e2
    rw [he] at e2
    have e3 := e2.1
    simp only [Option.some.injEq, Addr.mk.injEq] at e3
    exact e3.1.symm
  rw [hb.cell (World.block_lt_of_cell? w _ h1) (by rw [e]; simpa using hne)]; exact h1
theorem meetM_false (x y : MatM) : meetM x y false = false := by unfold meetM; simp
theorem frozen_of_block' {w : World} {p i : Nat} {cs : Array Value} {e : TypeId} (h : w.heap[p]? = some (.cells cs e (0, 0))) : w.frozen? ⟨p, i, none⟩ = false := by
  unfold World.frozen?; simp [h]
theorem great_no {m : MatM} (h : MatM.great m = false) : m.ws.length ≤ 1000 ∧ m.rows ≤ 20 ∧ m.cols ≤ 20 := by simp [MatM.great] at h; omega
theorem long_no' {a : VecM} (h : VecM.long a = false) : a.ws.length ≤ 1000 ∧ a.n ≤ 60 := by simp [VecM.long] at h; omega
theorem FW.lit {w : World} {t : TypeId} (l : List Nat) (h : ∀ x ∈ l, IsF x x) : FW (w.alloc (.cells (l.map (Value.float .f64)).toArray t)) w.heap.size l := by
  refine ⟨(l.map (Value.float .f64)).toArray, t, by show (w.heap.push _)[w.heap.size]? = _; simp, by simp, fun i hi => ⟨l.getD i 0, ?_, ?_⟩⟩
  · simp [List.getD_eq_getElem?_getD, hi]
  · rw [List.getD_eq_getElem?_getD, List.getElem?_eq_getElem hi]
    exact h _ (List.getElem_mem hi)
theorem FW.lit' {w : World} {t : TypeId} (l : List Nat) (h : ∀ x ∈ l, IsF x x) (n : Nat) (hn : n = w.heap.size) : FW (w.alloc (.cells (l.map (Value.float .f64)).toArray t)) n l := by subst hn; exact FW.lit l h
end Go.Proofs.Ytcmggfpcbijcjaa
end
section
/-
  Contracts: gemv.row, at, begin, Mul's closure, columns.
-/
set_option linter.unusedSimpArgs false
set_option linter.unusedVariables false
open Go Go.RowKit Sedge
namespace Go.Proofs.Ytcmggfpcbijcjaa
set_option maxRecDepth 100000 in
set_option maxHeartbeats 1000000 in
/-- gemv.row. -/
theorem vrow_any (x : VecM) (a : Option Addr) (l c : Nat) (w : World) :
   Calls Try.prog 196 #[.agg #[.slice a l c, .int .i64 x.off, .int .i64 x.n, .int .i64 x.inc]] w (fun e w' => e = .returned (.agg #[.slice a l c, .int .i64 x.off, .int .i64 1, .int .i64 x.n, .int .i64 x.inc]) ∧ ∃ o n, w' = ext w o n) := by
  go_enter Try.func196, Try.ntmps196
  refine seq_stop ?_
  go_wp2
  refine stop_go (fun W hW => ?_)
  have s1 : w.heap.size < W.heap.size := by rw [hW]; simp only [World.size_alloc]; omega
  have b1 : ∀ i, W.cell? ⟨w.heap.size, i, none⟩ = (#[.slice a l c, .int .i64 x.off, .int .i64 x.n, .int .i64 x.inc] : Array Value)[i]? := by intro i; rw [hW]; go_simp
  have f1 : ∀ i, W.frozen? ⟨w.heap.size, i, none⟩ = false := by intro i; rw [hW]; go_simp
  have s2 : w.heap.size + 1 < W.heap.size := by rw [hW]; simp only [World.size_alloc]; omega
  have b2 : ∀ i, W.cell? ⟨w.heap.size + 1, i, none⟩ = (#[.slice none 0 0, .int .i64 0, .int .i64 0, .int .i64 0, .int .i64 0] : Array Value)[i]? := by intro i; rw [hW]; go_simp
  have f2 : ∀ i, W.frozen? ⟨w.heap.size + 1, i, none⟩ = false := by intro i; rw [hW]; go_simp
  have g0 : Grew w W := by rw [hW]; exact ((Grew.refl _).alloc _).alloc _
  clear hW
  go_wp2
  refine bodyPost_ret (v := .agg #[.slice a l c, .int .i64 x.off, .int .i64 1, .int .i64 x.n, .int .i64 x.inc]) (by simp [results, Try.results196, go_sem, *]) rfl ?_
  exact ⟨rfl, by (show Grew _ _; repeat (first | (with_reducible exact Grew.refl _) | (with_reducible assumption) | (with_reducible exact Grew.same_o) | (with_reducible exact Grew.app_o) | (with_reducible refine Grew.ext ?_ _ _) | (with_reducible refine Grew.alloc ?_ _) | ((with_reducible refine Grew.setCell ?_ ?_ _); rotate_left; (focus (dsimp only; first | omega | (simp only [size_ext, World.size_alloc, Array.size_append]; omega)))) | (with_reducible refine Grew.drewN ?_ _) | (with_reducible refine Grew.drew ?_)))⟩
set_option maxRecDepth 100000 in
set_option maxHeartbeats 1000000 in
/-- gemv.at. -/
theorem gat_any (x : VecM) (g cap i : Nat) (w : World) (hx : x.right = true) (hi : (i : Int) < x.n) (hl : x.ws.length ≤ 1000000) :
   Calls Try.prog 160 #[.agg #[.slice (some ⟨g, 0, none⟩) x.ws.length cap, .int .i64 x.off, .int .i64 x.n, .int .i64 x.inc], .int .i64 i] w
     (fun e w' => e = .returned (.pointer (some ⟨g, x.place i, none⟩)) ∧ ∃ o n, w' = ext w o n) := by
  have hp := VecM.right_place hx hi
  have hn := VecM.right_n hx
  have r1 : IntKind.i64.wrap (i * x.inc) = i * x.inc := IntWalk.i64_in _ (by omega)
  have r2 : IntKind.i64.wrap (x.off + i * x.inc) = x.off + i * x.inc := IntWalk.i64_in _ (by omega)
  unfold VecM.place
  clear hx
  go_enter Try.func160, Try.ntmps160
  refine seq_stop ?_
  go_wp2
  refine stop_go (fun W hW => ?_)
  have s1 : w.heap.size < W.heap.size := by rw [hW]; simp only [World.size_alloc]; omega
  have b1 : ∀ i, W.cell? ⟨w.heap.size, i, none⟩ = (#[.slice (some ⟨g, 0, none⟩) x.ws.length cap, .int .i64 x.off, .int .i64 x.n, .int .i64 x.inc] : Array Value)[i]? := by intro i; rw [hW]; go_simp
  have g0 : Grew w W := by rw [hW]; exact (Grew.refl _).alloc _
  clear hW
  go_wp2
  go_ret
  exact ⟨rfl, by (show Grew _ _; repeat (first | (with_reducible exact Grew.refl _) | (with_reducible assumption) | (with_reducible exact Grew.same_o) | (with_reducible exact Grew.app_o) | (with_reducible refine Grew.ext ?_ _ _) | (with_reducible refine Grew.alloc ?_ _) | ((with_reducible refine Grew.setCell ?_ ?_ _); rotate_left; (focus (dsimp only; first | omega | (simp only [size_ext, World.size_alloc, Array.size_append]; omega)))) | (with_reducible refine Grew.drewN ?_ _) | (with_reducible refine Grew.drew ?_)))⟩
/-- A good matrix' column is right. -/
theorem colV_right {m : MatM} (hm : m.good = true) {j : Nat} (hj : (j : Int) < m.cols) (h0 : 0 < m.rows) : (colV m j).right = true := by
  have hn := MatM.good_n hm
  have hp := MatM.good_place hm (i := (m.rows - 1).toNat) (j := j) (by omega) hj
  have hp0 := MatM.good_place hm (i := 0) (j := j) (by omega) hj
  unfold VecM.right colV fitsB
  simp only [h0, if_true, Bool.and_eq_true, Bool.or_eq_true, decide_eq_true_eq]
  rw [Int.toNat_of_nonneg (by omega)] at hp
  simp only [Int.natCast_zero, Int.add_zero] at hp0
  refine ⟨by omega, .inr ⟨by omega, by omega⟩⟩
/-- A number that is begun. -/
def beginF (β z : Nat) : Nat := if feq0 β = true then 0 else fmul β z
def stepV (F : Nat → Nat) (s : Nat → Nat) (i r : Nat) : Nat := if r < i then F (s r) else s r
theorem stepV_set {x : VecM} {L : List Nat} {s : Nat → Nat} {F : Nat → Nat} {i v : Nat} (h : VH x L (stepV F s i)) (hx : x.right = true) (hi : (i : Int) < x.n) (hv : v = F (s i)) : VH x (L.set (x.place i) v) (stepV F s (i + 1)) := by
  refine (h.set hx hi).congr fun r hr => ?_
  unfold stepV
  by_cases e : r = i
  · subst e; simp [hv]
  · rw [if_neg e]
    by_cases h2 : r < i
    · rw [if_pos h2, if_pos (by omega)]
    · rw [if_neg h2, if_neg (by omega)]
set_option maxRecDepth 100000 in
set_option maxHeartbeats 2000000 in
/-- gemv.begin. -/
theorem begin_any (b β : Nat) (y : VecM) (g cap : Nat) (s : Nat → Nat) (L0 : List Nat) (w : World) (hb : IsF b β) (hF : FW w g L0) (hV : VH y L0 s) (hy : y.right = true) (hl : y.ws.length ≤ 1000000) :
   Calls Try.prog 145 #[.float .f64 b, .agg #[.slice (some ⟨g, 0, none⟩) y.ws.length cap, .int .i64 y.off, .int .i64 y.n, .int .i64 y.inc]] w
     (fun e w' => e = .returned (.tuple #[]) ∧ But w [g] w' ∧ ∃ L, FW w' g L ∧ VH y L (fun r => beginF β (s r))) := by
  have hn := VecM.right_n hy
  have hnl := VecM.right_nle hy hl
  have hltg := hF.lt
  have Hy := hid hy
  have hat : ∀ i : Nat, (i : Int) < y.n → ∀ w', Calls Try.prog 160 #[.agg #[.slice (some ⟨g, 0, none⟩) y.ws.length cap, .int .i64 y.off, .int .i64 y.n, .int .i64 y.inc], .int .i64 i] w' (fun e w2 => e = .returned (.pointer (some ⟨g, y.place i, none⟩)) ∧ ∃ o n, w2 = ext w' o n) := fun i hi w' => gat_any y g cap i w' hy hi hl
  clear hy
  cases hz : feq0 β
  · have hz' : (FloatKind.f64.format.order b 0 == some Ordering.eq) = false := by rw [← hz]; unfold feq0; rw [← hb.order isF_zero]; rfl
    have hbf : ∀ z, fmul β z = beginF β z := fun z => by unfold beginF; rw [hz]; rfl
    go_enter Try.func145, Try.ntmps145
    refine seq_stop ?_
    go_wp2
    refine stop_go (fun W hW => ?_)
    have s1 : w.heap.size < W.heap.size := by rw [hW]; simp only [World.size_alloc]; omega
    have b1 : ∀ i, W.cell? ⟨w.heap.size, i, none⟩ = (#[.slice (some ⟨g, 0, none⟩) y.ws.length cap, .int .i64 y.off, .int .i64 y.n, .int .i64 y.inc] : Array Value)[i]? := by intro i; rw [hW]; go_simp
    have g0 : Grew w W := by rw [hW]; exact (Grew.refl _).alloc _
    clear hW
    have zW := g0.below.size
    have bw : ∀ w', But W [g] w' → But w [g] w' := fun w' h => ((But.refl w [g]).grew g0).trans h (fun _ hb => .inl hb)
    have cU : ∀ w', But W [g] w' → ∀ i, w'.cell? ⟨w.heap.size, i, none⟩ = (#[.slice (some ⟨g, 0, none⟩) y.ws.length cap, .int .i64 y.off, .int .i64 y.n, .int .i64 y.inc] : Array Value)[i]? := fun w' h i => (h.cell s1 (by simp; omega)).trans (b1 i)
    have hFW := hF.grew g0
    go_wp2
    go_loopw [8] (fun c wr => ∃ (i : Nat) (L : List Nat), (i : Int) ≤ y.n ∧ c = .int .i64 i ∧ But W [g] wr ∧ FW wr g L ∧ VH y L (stepV (beginF β) s i)) (fun c _ => (y.n - intOf c).toNat)
    case atStart => exact ⟨0, L0, hn.1, rfl, But.refl _ _, hFW, hV.congr fun r _ => by simp [stepV]⟩
    case round =>
      obtain ⟨i, L, hi, rfl, hB, hL, hS⟩ := hrel
      have tT := cU _ hB
      have zB := hB.size
      have kT : w.heap.size < wr.heap.size := by omega
      by_cases hlt : (i : Int) < y.n
      · have hlt' := hid hlt
        have hati := hat i hlt
        obtain ⟨r0, hr0, hf0⟩ := hL.get (i := y.place i) (by rw [hS.len]; exact VecM.place_lt Hy.out hlt)
        have gl := hL.lt
        have fz : ∀ i, wr.frozen? ⟨g, i, none⟩ = false := hL.notFrozen
        go_wp2_with (first | (go_at_call 160; ((with_reducible refine (hati _).mono ?_); rintro e w1 ⟨rfl, o1, n1, rfl⟩)) | ((with_reducible refine upon_id ?_); refine upon_fop rfl (by assumption) (by assumption) ?_; intro rr nn hr))
        go_roundw
        case rel => exact ⟨i + 1, _, by have := hlt'.out; omega, by go_num, (hB.setc hL (by simp)).grew ⟨_, _, rfl⟩, (hL.setc (k := y.place i) hr).ext _ _, stepV_set hS Hy.out hlt'.out (by rw [← hbf, hS.get i hlt'.out]; unfold stepV; rw [if_neg (by omega)]; rfl)⟩
        case measure => (have := hlt'.out; simp [intOf]; omega)
      · go_wp2
        go_end0
        exact ⟨rfl, bw _ hB, L, hL, hS.congr fun r hr => by unfold stepV; rw [if_pos (by omega)]⟩
  · have hz' : (FloatKind.f64.format.order b 0 == some Ordering.eq) = true := by rw [← hz]; unfold feq0; rw [← hb.order isF_zero]; rfl
    have hbf : ∀ z, 0 = beginF β z := fun z => by unfold beginF; rw [hz]; rfl
    go_enter Try.func145, Try.ntmps145
    refine seq_stop ?_
    go_wp2
    refine stop_go (fun W hW => ?_)
    have s1 : w.heap.size < W.heap.size := by rw [hW]; simp only [World.size_alloc]; omega
    have b1 : ∀ i, W.cell? ⟨w.heap.size, i, none⟩ = (#[.slice (some ⟨g, 0, none⟩) y.ws.length cap, .int .i64 y.off, .int .i64 y.n, .int .i64 y.inc] : Array Value)[i]? := by intro i; rw [hW]; go_simp
    have g0 : Grew w W := by rw [hW]; exact (Grew.refl _).alloc _
    clear hW
    have zW := g0.below.size
    have bw : ∀ w', But W [g] w' → But w [g] w' := fun w' h => ((But.refl w [g]).grew g0).trans h (fun _ hb => .inl hb)
    have cU : ∀ w', But W [g] w' → ∀ i, w'.cell? ⟨w.heap.size, i, none⟩ = (#[.slice (some ⟨g, 0, none⟩) y.ws.length cap, .int .i64 y.off, .int .i64 y.n, .int .i64 y.inc] : Array Value)[i]? := fun w' h i => (h.cell s1 (by simp; omega)).trans (b1 i)
    have hFW := hF.grew g0
    go_wp2
    go_loopw [8] (fun c wr => ∃ (i : Nat) (L : List Nat), (i : Int) ≤ y.n ∧ c = .int .i64 i ∧ But W [g] wr ∧ FW wr g L ∧ VH y L (stepV (beginF β) s i)) (fun c _ => (y.n - intOf c).toNat)
    case atStart => exact ⟨0, L0, hn.1, rfl, But.refl _ _, hFW, hV.congr fun r _ => by simp [stepV]⟩
    case round =>
      obtain ⟨i, L, hi, rfl, hB, hL, hS⟩ := hrel
      have tT := cU _ hB
      have zB := hB.size
      have kT : w.heap.size < wr.heap.size := by omega
      by_cases hlt : (i : Int) < y.n
      · have hlt' := hid hlt
        have hati := hat i hlt
        obtain ⟨r0, hr0, hf0⟩ := hL.get (i := y.place i) (by rw [hS.len]; exact VecM.place_lt Hy.out hlt)
        have gl := hL.lt
        have fz : ∀ i, wr.frozen? ⟨g, i, none⟩ = false := hL.notFrozen
        go_wp2_with (first | (go_at_call 160; ((with_reducible refine (hati _).mono ?_); rintro e w1 ⟨rfl, o1, n1, rfl⟩)))
        go_roundw
        case rel => exact ⟨i + 1, _, by have := hlt'.out; omega, by go_num, (hB.setc hL (by simp)).grew ⟨_, _, rfl⟩, (hL.setc (k := y.place i) isF_zero).ext _ _, stepV_set hS Hy.out hlt'.out (hbf _)⟩
        case measure => (have := hlt'.out; simp [intOf]; omega)
      · go_wp2
        go_end0
        exact ⟨rfl, bw _ hB, L, hL, hS.congr fun r hr => by unfold stepV; rw [if_pos (by omega)]⟩
/-- gemv.Mul's closure. -/
theorem mcl_any (v x a V X α Ta : Nat) (w : World) (hv : IsF v V) (hx : IsF x X) (ha : IsF a α) (hca : ∀ i, w.cell? ⟨Ta, i, none⟩ = (#[.float .f64 a] : Array Value)[i]?) :
   Calls Try.prog 147 #[.float .f64 v, .float .f64 x, .pointer (some ⟨Ta, 0, none⟩)] w (fun e w' => ∃ r, e = .returned (.float .f64 r) ∧ IsF r (fmul (fmul α X) V) ∧ ∃ o n, w' = ext w o n) := by
  go_enter Try.func147, Try.ntmps147
  go_wp2_with (first | ((with_reducible refine upon_id ?_); refine upon_fop rfl (by assumption) (by assumption) ?_; intro rr nn hr))
  go_ret
  exact ⟨_, rfl, by assumption, by (show Grew _ _; repeat (first | (with_reducible exact Grew.refl _) | (with_reducible assumption) | (with_reducible exact Grew.same_o) | (with_reducible exact Grew.app_o) | (with_reducible refine Grew.ext ?_ _ _) | (with_reducible refine Grew.alloc ?_ _) | ((with_reducible refine Grew.setCell ?_ ?_ _); rotate_left; (focus (dsimp only; first | omega | (simp only [size_ext, World.size_alloc, Array.size_append]; omega)))) | (with_reducible refine Grew.drewN ?_ _) | (with_reducible refine Grew.drew ?_)))⟩
end Go.Proofs.Ytcmggfpcbijcjaa
end
section
/-
  Contract: gemv.columns, of gemv.Mul's closure.
-/
set_option linter.unusedSimpArgs false
set_option linter.unusedVariables false
open Go Go.RowKit Sedge
namespace Go.Proofs.Ytcmggfpcbijcjaa
/-- A row's number: what it began with, and the products of its first j columns. -/
def mulTo (α : Nat) (M : Nat → Nat → Nat) (X : Nat → Nat) (z r : Nat) : Nat → Nat
  | 0 => z
  | j + 1 => fadd (mulTo α M X z r j) (fmul (fmul α (X j)) (M r j))
/-- A number of a matrix, or of a vector, can be read while y's numbers change. -/
def Reads (w : World) (y : VecM) (g b : Nat) (pl : Nat) (v : Nat) : Prop :=
  ∀ w' L s, But w [g] w' → FW w' g L → VH y L s → ∃ r, w'.cell? ⟨b, pl, none⟩ = some (.float .f64 r) ∧ IsF r v
set_option maxRecDepth 100000 in
set_option maxHeartbeats 4000000 in
theorem columns_any (m : MatM) (x y : VecM) (bm cm bx cx g cg a α Ta : Nat) (s0 : Nat → Nat) (L0 : List Nat) (w : World) (ha : IsF a α) (hca : ∀ i, w.cell? ⟨Ta, i, none⟩ = (#[.float .f64 a] : Array Value)[i]?) (kTa : Ta < w.heap.size) (nTa : Ta ≠ g)
    (hF : FW w g L0) (hV : VH y L0 s0) (hm : m.good = true) (hx : x.right = true) (hy : y.right = true) (hwm : m.wf) (hxn : x.n = m.cols) (hyn : y.n = m.rows) (hy0 : 0 < y.n) (hlm : m.ws.length ≤ 1000000) (hlx : x.ws.length ≤ 1000000) (hly : y.ws.length ≤ 1000000)
    (hcolA : ∀ w' L s, But w [g] w' → FW w' g L → VH y L s → ∀ j : Nat, (j : Int) < m.cols → Calls Try.prog 149 #[.agg #[.slice (some ⟨bm, 0, none⟩) m.ws.length cm, .int .i64 m.off, .int .i64 m.rows, .int .i64 m.cols, .int .i64 m.ld], .int .i64 j] w'
      (fun e w2 => e = .returned (.agg #[.slice (some ⟨bm, 0, none⟩) m.ws.length cm, .int .i64 (m.off + j * m.ld), .int .i64 m.rows, .int .i64 1]) ∧ ∃ o n, w2 = ext w' o n))
    (rdm : ∀ i j : Nat, (i : Int) < m.rows → (j : Int) < m.cols → Reads w y g bm (m.place i j) (m.num i j)) (rdx : ∀ j : Nat, (j : Int) < x.n → Reads w y g bx (x.place j) (x.num j)) (kbm : bm < w.heap.size) (kbx : bx < w.heap.size) :
   Calls Try.prog 146 #[.agg #[.slice (some ⟨bm, 0, none⟩) m.ws.length cm, .int .i64 m.off, .int .i64 m.rows, .int .i64 m.cols, .int .i64 m.ld], .agg #[.slice (some ⟨bx, 0, none⟩) x.ws.length cx, .int .i64 x.off, .int .i64 x.n, .int .i64 x.inc], .agg #[.slice (some ⟨g, 0, none⟩) y.ws.length cg, .int .i64 y.off, .int .i64 y.n, .int .i64 y.inc], .func (.func 147) #[] #[.pointer (some ⟨Ta, 0, none⟩)]] w
     (fun e w' => e = .returned (.tuple #[]) ∧ But w [g] w' ∧ ∃ L, FW w' g L ∧ VH y L (fun r => mulTo α m.num x.num (s0 r) r x.n.toNat)) := by
  have hn := MatM.good_n hm
  have hnx := VecM.right_n hx
  have hny := VecM.right_n hy
  have hltg := hF.lt
  have Hm := hid hm
  have Hx := hid hx
  have Hy := hid hy
  have Hxn := hid hxn
  have Hyn := hid hyn
  have hnlx := VecM.right_nle hx hlx
  have hnly := VecM.right_nle hy hly
  have haty : ∀ i : Nat, (i : Int) < y.n → ∀ w', Calls Try.prog 160 #[.agg #[.slice (some ⟨g, 0, none⟩) y.ws.length cg, .int .i64 y.off, .int .i64 y.n, .int .i64 y.inc], .int .i64 i] w' (fun e w2 => e = .returned (.pointer (some ⟨g, y.place i, none⟩)) ∧ ∃ o n, w2 = ext w' o n) := fun i hi w' => gat_any y g cg i w' hy hi hly
  have hatx : ∀ i : Nat, (i : Int) < x.n → ∀ w', Calls Try.prog 160 #[.agg #[.slice (some ⟨bx, 0, none⟩) x.ws.length cx, .int .i64 x.off, .int .i64 x.n, .int .i64 x.inc], .int .i64 i] w' (fun e w2 => e = .returned (.pointer (some ⟨bx, x.place i, none⟩)) ∧ ∃ o n, w2 = ext w' o n) := fun i hi w' => gat_any x bx cx i w' hx hi hlx
  have hatm : ∀ i j : Nat, (i : Int) < m.rows → (j : Int) < m.cols → ∀ w', Calls Try.prog 160 #[.agg #[.slice (some ⟨bm, 0, none⟩) m.ws.length cm, .int .i64 (m.off + j * m.ld), .int .i64 m.rows, .int .i64 1], .int .i64 i] w' (fun e w2 => e = .returned (.pointer (some ⟨bm, m.place i j, none⟩)) ∧ ∃ o n, w2 = ext w' o n) := fun i j hi hj w' => by
    have hr := colV_right hm hj (by omega)
    have h := gat_any (colV m j) bm cm i w' hr hi hlm
    have e1 : (colV m j).place i = m.place i j := by unfold colV VecM.place MatM.place; simp only [show (0 : Int) < m.rows by omega, if_true]; congr 1; omega
    have e2 : (colV m j).off = m.off + j * m.ld := by unfold colV; simp only [show (0 : Int) < m.rows by omega, if_true]
    rw [e1, e2] at h
    exact h
  clear hm hx hy hwm hxn hyn
  have hmc : ∀ v V x X w', IsF v V → IsF x X → (∀ i, w'.cell? ⟨Ta, i, none⟩ = (#[.float .f64 a] : Array Value)[i]?) → Calls Try.prog 147 #[.float .f64 v, .float .f64 x, .pointer (some ⟨Ta, 0, none⟩)] w' (fun e w2 => ∃ r, e = .returned (.float .f64 r) ∧ IsF r (fmul (fmul α X) V) ∧ ∃ o n, w2 = ext w' o n) := fun v V x X w' h1 h2 h3 => mcl_any v x a V X α Ta w' h1 h2 ha h3
  go_enter Try.func146, Try.ntmps146
  refine seq_stop ?_
  go_wp2
  refine stop_go (fun W hW => ?_)
  have s1 : w.heap.size < W.heap.size := by rw [hW]; simp only [World.size_alloc]; omega
  have b1 : ∀ i, W.cell? ⟨w.heap.size, i, none⟩ = (#[.slice (some ⟨bm, 0, none⟩) m.ws.length cm, .int .i64 m.off, .int .i64 m.rows, .int .i64 m.cols, .int .i64 m.ld] : Array Value)[i]? := by intro i; rw [hW]; go_simp
  have s2 : w.heap.size + 1 < W.heap.size := by rw [hW]; simp only [World.size_alloc]; omega
  have b2 : ∀ i, W.cell? ⟨w.heap.size + 1, i, none⟩ = (#[.slice (some ⟨bx, 0, none⟩) x.ws.length cx, .int .i64 x.off, .int .i64 x.n, .int .i64 x.inc] : Array Value)[i]? := by intro i; rw [hW]; go_simp
  have s3 : w.heap.size + 1 + 1 < W.heap.size := by rw [hW]; simp only [World.size_alloc]; omega
  have b3 : ∀ i, W.cell? ⟨w.heap.size + 1 + 1, i, none⟩ = (#[.slice (some ⟨g, 0, none⟩) y.ws.length cg, .int .i64 y.off, .int .i64 y.n, .int .i64 y.inc] : Array Value)[i]? := by intro i; rw [hW]; go_simp
  have g0 : Grew w W := by rw [hW]; exact (((Grew.refl _).alloc _).alloc _).alloc _
  clear hW
  have zW := g0.below.size
  have bw : ∀ w', But W [g] w' → But w [g] w' := fun w' h => ((But.refl w [g]).grew g0).trans h (fun _ hb => .inl hb)
  have c1 : ∀ w', But W [g] w' → ∀ i, w'.cell? ⟨w.heap.size, i, none⟩ = (#[.slice (some ⟨bm, 0, none⟩) m.ws.length cm, .int .i64 m.off, .int .i64 m.rows, .int .i64 m.cols, .int .i64 m.ld] : Array Value)[i]? := fun w' h i => (h.cell s1 (by simp; omega)).trans (b1 i)
  have c2 : ∀ w', But W [g] w' → ∀ i, w'.cell? ⟨w.heap.size + 1, i, none⟩ = (#[.slice (some ⟨bx, 0, none⟩) x.ws.length cx, .int .i64 x.off, .int .i64 x.n, .int .i64 x.inc] : Array Value)[i]? := fun w' h i => (h.cell s2 (by simp; omega)).trans (b2 i)
  have c3 : ∀ w', But W [g] w' → ∀ i, w'.cell? ⟨w.heap.size + 1 + 1, i, none⟩ = (#[.slice (some ⟨g, 0, none⟩) y.ws.length cg, .int .i64 y.off, .int .i64 y.n, .int .i64 y.inc] : Array Value)[i]? := fun w' h i => (h.cell s3 (by simp; omega)).trans (b3 i)
  have cA : ∀ w', But w [g] w' → ∀ i, w'.cell? ⟨Ta, i, none⟩ = (#[.float .f64 a] : Array Value)[i]? := fun w' h i => (h.cell kTa (by simpa using nTa)).trans (hca i)
  have hFW := hF.grew g0
  clear b1 b2 b3
  have t2 := c2 _ (But.refl W [g])
  go_wp2
  clear t2
  go_loopw [13] (fun c wr => ∃ (j : Nat) (L : List Nat), (j : Int) ≤ x.n ∧ c = .int .i64 j ∧ But W [g] wr ∧ FW wr g L ∧ VH y L (fun r => mulTo α m.num x.num (s0 r) r j)) (fun c _ => (x.n - intOf c).toNat)
  case atStart => exact ⟨0, L0, hnx.1, rfl, But.refl _ _, hFW, hV⟩
  case round =>
    obtain ⟨j, L, hj, rfl, hB, hL, hS⟩ := hrel
    have t1 := c1 _ hB
    have zB := hB.size
    have k1 : w.heap.size < wr.heap.size := by omega
    have t3 := c3 _ hB
    have k3 : w.heap.size + 1 + 1 < wr.heap.size := by omega
    by_cases hlt : (j : Int) < x.n
    · have hlt' := hid hlt
      have hjm : (j : Int) < m.cols := by have := Hxn.out; omega
      have hcj := hcolA wr L _ (bw _ hB) hL hS j hjm
      go_wp2_with (first | (go_at_call 149; ((with_reducible refine (hcj).mono ?_); rintro e w1 ⟨rfl, oc, nc, rfl⟩)))
      refine name_any (fun V hV => ?_)
      have gV : Grew wr V := by rw [← hV]; (show Grew _ _; repeat (first | (with_reducible exact Grew.refl _) | (with_reducible assumption) | (with_reducible exact Grew.same_o) | (with_reducible exact Grew.app_o) | (with_reducible refine Grew.ext ?_ _ _) | (with_reducible refine Grew.alloc ?_ _) | ((with_reducible refine Grew.setCell ?_ ?_ _); rotate_left; (focus (dsimp only; first | omega | (simp only [size_ext, World.size_alloc, Array.size_append]; omega)))) | (with_reducible refine Grew.drewN ?_ _) | (with_reducible refine Grew.drew ?_)))
      have BV : But W [g] V := hB.grew gV
      have cT : ∀ i, V.cell? ⟨wr.heap.size + oc.size, i, none⟩ = (#[.slice (some ⟨bm, 0, none⟩) m.ws.length cm, .int .i64 (m.off + j * m.ld), .int .i64 m.rows, .int .i64 1] : Array Value)[i]? := by subst hV; intro i; go_simp
      have kV : wr.heap.size + oc.size < V.heap.size := by rw [← hV]; simp only [World.size_alloc, size_ext]; omega
      obtain ⟨T, hT⟩ : ∃ T, wr.heap.size + oc.size = T := ⟨_, rfl⟩
      have zT : wr.heap.size ≤ T := by omega
      rw [hT] at cT kV
      simp only [hT]
      have ltg2 := hL.lt
      have cV : ∀ w', But V [g] w' → ∀ i, w'.cell? ⟨T, i, none⟩ = (#[.slice (some ⟨bm, 0, none⟩) m.ws.length cm, .int .i64 (m.off + j * m.ld), .int .i64 m.rows, .int .i64 1] : Array Value)[i]? := fun w' h i => (h.cell kV (by simp; omega)).trans (cT i)
      have bV : ∀ w', But V [g] w' → But W [g] w' := fun w' h => BV.trans h (fun _ hb => .inl hb)
      have hLV : FW V g L := hL.grew gV
      clear hV hT cT t3
      go_loopw [21] (fun c wr => ∃ (i : Nat) (L : List Nat), (i : Int) ≤ y.n ∧ c = .int .i64 i ∧ But V [g] wr ∧ FW wr g L ∧ VH y L (fun r => if r < i then mulTo α m.num x.num (s0 r) r (j + 1) else mulTo α m.num x.num (s0 r) r j)) (fun c _ => (y.n - intOf c).toNat)
      case atStart => exact ⟨0, L, hny.1, rfl, But.refl _ _, hLV, hS.congr fun r _ => by simp⟩
      case round =>
        obtain ⟨i, L2, hi, rfl, hB2, hL2, hS2⟩ := hrel
        by_cases hli : (i : Int) < y.n
        · have hli' := hid hli
          have him : (i : Int) < m.rows := by have := Hyn.out; omega
          have tT := cV _ hB2
          have t2 := c2 _ (bV _ hB2)
          have t3 := c3 _ (bV _ hB2)
          have zB2 := hB2.size
          have zBV := BV.size
          have x1 : T < wr.heap.size := by omega
          have x2 : w.heap.size + 1 < wr.heap.size := by omega
          have x3 : w.heap.size + 1 + 1 < wr.heap.size := by omega
          have hgi := hS2.get i hli
          obtain ⟨r0, hr0, hf0⟩ := hL2.get (i := y.place i) (by rw [hS2.len]; exact VecM.place_lt Hy.out hli)
          rw [hgi, if_neg (by omega)] at hf0
          obtain ⟨rm, hrm, hfm⟩ := rdm i j him hjm wr L2 _ (bw _ (bV _ hB2)) hL2 hS2
          obtain ⟨rx, hrx, hfx⟩ := rdx j hlt'.out wr L2 _ (bw _ (bV _ hB2)) hL2 hS2
          have gl := hL2.lt
          have kbm2 : bm < wr.heap.size := by omega
          have kbx2 : bx < wr.heap.size := by omega
          have kTa2 : Ta < wr.heap.size := by omega
          have fz : ∀ i, wr.frozen? ⟨g, i, none⟩ = false := hL2.notFrozen
          have hca2 : ∀ w', Grew wr w' → ∀ i, w'.cell? ⟨Ta, i, none⟩ = (#[.float .f64 a] : Array Value)[i]? := fun w' hg => cA _ (bw _ (bV _ (hB2.grew hg)))
          have hay := haty i hli
          have hax := hatx j hlt'.out
          have ham := hatm i j him hjm
          go_wp2
          refine wp_region_R (Grew wr) [19] [(0,0), (3,1), (3,5), (0,6), (3,7), (0,11), (3,12), (1,2), (3,3), (0,4), (1,8), (3,9), (0,10), (1,13), (3,14), (0,15), (1,16), (1,17), (3,18), (2,19)] (by kernel_rfl) (by kernel_rfl) (fun _ _ _ _ h _ => h) (by first | exact ⟨_, _, ext_drew⟩ | exact ⟨_, _, drew_ext0⟩ | (show Grew _ _; repeat (first | (with_reducible exact Grew.refl _) | (with_reducible assumption) | (with_reducible exact Grew.same_o) | (with_reducible exact Grew.app_o) | (with_reducible refine Grew.ext ?_ _ _) | (with_reducible refine Grew.alloc ?_ _) | ((with_reducible refine Grew.setCell ?_ ?_ _); rotate_left; (focus (dsimp only; first | omega | (simp only [size_ext, World.size_alloc, Array.size_append]; omega)))) | (with_reducible refine Grew.drewN ?_ _) | (with_reducible refine Grew.drew ?_)))) ?_
          go_wp2_with (first | ((with_reducible refine wpR_id ?_); first | (refine wpR_take (v := ?_) rfl rfl ?_ ?_; rotate_left; (focus (rintro w' ⟨o', n', rfl⟩; go_simp; try with_reducible rfl)); simp only [Act.put, List.setIfInBounds_toArray, List.set_cons_zero, List.set_cons_succ]) | (refine wpR_pure (v := ?_) rfl rfl ?_ ?_; rotate_left; (focus (intro w'; go_simp; try with_reducible rfl)); simp only [Act.put, List.setIfInBounds_toArray, List.set_cons_zero, List.set_cons_succ]) | (refine wpR_takeG (v := ?_) rfl rfl rfl rfl rfl ?_ ?_; rotate_left; (focus (rintro w' ⟨o', n', rfl⟩; go_simp; try with_reducible rfl)); simp only [Act.put, List.setIfInBounds_toArray, List.set_cons_zero, List.set_cons_succ]) | (refine wpR_skip rfl rfl rfl rfl rfl rfl ?_; simp only [Act.put, List.setIfInBounds_toArray, List.set_cons_zero, List.set_cons_succ]) | (refine wpR_skipU rfl rfl rfl rfl rfl ?_; simp only [Act.put, List.setIfInBounds_toArray, List.set_cons_zero, List.set_cons_succ]) | (refine wpR_do rfl rfl (fun K hK => ?_)) | (refine wpR_doG rfl rfl rfl rfl rfl (fun K hK => ?_)) | (refine wpR_last rfl rfl (fun K hK => ?_)) | (refine wpR_nil ?_)) | ((with_reducible refine wpR_go ?_ ?_); (focus exact ⟨_, _, rfl⟩)) | ((with_reducible refine upon_id ?_); refine upon_fop rfl (by assumption) (by assumption) ?_; intro rr nn hr) | (go_at_call 160; ((with_reducible refine (hay _).mono ?_); rintro e w1 ⟨rfl, o1, n1, rfl⟩)) | (go_at_call 160; ((with_reducible refine (ham _).mono ?_); rintro e w1 ⟨rfl, o2, n2, rfl⟩)) | (go_at_call 160; ((with_reducible refine (hax _).mono ?_); rintro e w1 ⟨rfl, o3, n3, rfl⟩)) | (go_at_call 147; ((with_reducible refine (hmc rm _ rx _ _ hfm hfx (hca2 _ (by (show Grew _ _; repeat (first | (with_reducible exact Grew.refl _) | (with_reducible assumption) | (with_reducible exact Grew.same_o) | (with_reducible exact Grew.app_o) | (with_reducible refine Grew.ext ?_ _ _) | (with_reducible refine Grew.alloc ?_ _) | ((with_reducible refine Grew.setCell ?_ ?_ _); rotate_left; (focus (dsimp only; first | omega | (simp only [size_ext, World.size_alloc, Array.size_append]; omega)))) | (with_reducible refine Grew.drewN ?_ _) | (with_reducible refine Grew.drew ?_)))))).mono ?_); rintro e w1 ⟨rc, rfl, hrc, o4, n4, rfl⟩)))
          go_roundw
          case rel =>
            refine ⟨i + 1, _, by have := hli'.out; omega, by go_num, (hB2.setc hL2 (by simp)).grew ⟨_, _, rfl⟩, (hL2.setc (k := y.place i) hr).ext _ _, (hS2.set Hy.out hli'.out).congr fun r hr => ?_⟩
            by_cases e : r = i
            · subst e; simp [mulTo]; rfl
            · rw [if_neg e]
              by_cases h2 : r < i
              · rw [if_pos h2, if_pos (by omega)]
              · rw [if_neg h2, if_neg (by omega)]
          case measure => (have := hli'.out; simp [intOf]; omega)
        · go_wp2
          go_roundw
          case rel => exact ⟨j + 1, L2, by have := hlt'.out; omega, by go_num, bV _ hB2, hL2, hS2.congr fun r hr => by rw [if_pos (by omega)]⟩
          case measure => (have := hlt'.out; simp [intOf]; omega)
    · have e : j = x.n.toNat := by omega
      go_wp2
      go_end0
      exact ⟨rfl, bw _ hB, L, hL, hS.congr fun r hr => by rw [e]⟩
end Go.Proofs.Ytcmggfpcbijcjaa
end
section
/-
  Contracts: gemv.check and gemv.Mul, where all is well.
-/
set_option linter.unusedSimpArgs false
set_option linter.unusedVariables false
open Go Go.RowKit Sedge
namespace Go.Proofs.Ytcmggfpcbijcjaa
/-- What is asked of a product: all is well. -/
structure MulOk (m : MatM) (x y : VecM) (bm cm bx cx g cg : Nat) (rows cols : Int) (w : World) : Prop where
  M : FS w (.slice (some ⟨bm, 0, none⟩) m.ws.length cm) m.ws
  X : FS w (.slice (some ⟨bx, 0, none⟩) x.ws.length cx) x.ws
  Y : FS w (.slice (some ⟨g, 0, none⟩) y.ws.length cg) y.ws
  pM : Plain w bm
  pX : Plain w bx
  pY : Plain w g
  good : m.good = true
  rx : x.right = true
  ry : y.right = true
  xn : x.n = cols
  yn : y.n = rows
  m1 : meetM (rowM y) m (decide (g = bm)) = false
  m2 : meetM (rowM y) (rowM x) (decide (g = bx)) = false
  wm : m.wf
  wx : x.wf
  wy : y.wf
  lm : m.ws.length ≤ 1000000
  lx : x.ws.length ≤ 1000000
  ly : y.ws.length ≤ 1000000
set_option maxRecDepth 100000 in
set_option maxHeartbeats 2000000 in
/-- gemv.check, where all is well. -/
theorem vcheck_ok (m : MatM) (x y : VecM) (bm cm bx cx g cg : Nat) (rows cols : Int) (w : World) (H : MulOk m x y bm cm bx cx g cg rows cols w) :
   Calls Try.prog 144 #[.agg #[(.slice (some ⟨bm, 0, none⟩) m.ws.length cm), .int .i64 m.off, .int .i64 m.rows, .int .i64 m.cols, .int .i64 m.ld], .int .i64 rows, .int .i64 cols, .agg #[(.slice (some ⟨bx, 0, none⟩) x.ws.length cx), .int .i64 x.off, .int .i64 x.n, .int .i64 x.inc], .agg #[(.slice (some ⟨g, 0, none⟩) y.ws.length cg), .int .i64 y.off, .int .i64 y.n, .int .i64 y.inc]] w (fun e w' => e = .returned (.int .i64 0) ∧ ∃ o n, w' = ext w o n) := by
  have cG : ∀ w', FS w' (.slice (some ⟨bm, 0, none⟩) m.ws.length cm) m.ws → Calls Try.prog 130 #[.agg #[(.slice (some ⟨bm, 0, none⟩) m.ws.length cm), .int .i64 m.off, .int .i64 m.rows, .int .i64 m.cols, .int .i64 m.ld]] w' (fun e w2 => e = .returned (.bool true) ∧ ∃ o n, w2 = ext w' o n) := fun w' h => by
    have := good_any m _ w' h H.wm; rw [H.good] at this; exact this
  have cX : ∀ w', FS w' (.slice (some ⟨bx, 0, none⟩) x.ws.length cx) x.ws → Calls Try.prog 135 #[.agg #[(.slice (some ⟨bx, 0, none⟩) x.ws.length cx), .int .i64 x.off, .int .i64 x.n, .int .i64 x.inc]] w' (fun e w2 => e = .returned (.bool true) ∧ ∃ o n, w2 = ext w' o n) := fun w' h => by
    have := right_any x _ w' h H.wx; rw [H.rx] at this; exact this
  have cY : ∀ w', FS w' (.slice (some ⟨g, 0, none⟩) y.ws.length cg) y.ws → Calls Try.prog 135 #[.agg #[(.slice (some ⟨g, 0, none⟩) y.ws.length cg), .int .i64 y.off, .int .i64 y.n, .int .i64 y.inc]] w' (fun e w2 => e = .returned (.bool true) ∧ ∃ o n, w2 = ext w' o n) := fun w' h => by
    have := right_any y _ w' h H.wy; rw [H.ry] at this; exact this
  have cM1 : ∀ w', FS w' (.slice (some ⟨g, 0, none⟩) y.ws.length cg) y.ws → FS w' (.slice (some ⟨bm, 0, none⟩) m.ws.length cm) m.ws → Plain w' g → Plain w' bm → Calls Try.prog 136 #[.agg #[(.slice (some ⟨g, 0, none⟩) y.ws.length cg), .int .i64 y.off, .int .i64 1, .int .i64 y.n, .int .i64 y.inc], .agg #[(.slice (some ⟨bm, 0, none⟩) m.ws.length cm), .int .i64 m.off, .int .i64 m.rows, .int .i64 m.cols, .int .i64 m.ld]] w' (fun e w2 => e = .returned (.bool false) ∧ ∃ o n, w2 = ext w' o n) := fun w' h1 h2 p1 p2 => by
    have := meetM_any (rowM y) m g bm cg cm w' h1 h2 p1 p2 (rowM_wf H.wy) H.wm H.ly H.lm
    rw [H.m1] at this; exact this
  have cM2 : ∀ w', FS w' (.slice (some ⟨g, 0, none⟩) y.ws.length cg) y.ws → FS w' (.slice (some ⟨bx, 0, none⟩) x.ws.length cx) x.ws → Plain w' g → Plain w' bx → Calls Try.prog 136 #[.agg #[(.slice (some ⟨g, 0, none⟩) y.ws.length cg), .int .i64 y.off, .int .i64 1, .int .i64 y.n, .int .i64 y.inc], .agg #[(.slice (some ⟨bx, 0, none⟩) x.ws.length cx), .int .i64 x.off, .int .i64 1, .int .i64 x.n, .int .i64 x.inc]] w' (fun e w2 => e = .returned (.bool false) ∧ ∃ o n, w2 = ext w' o n) := fun w' h1 h2 p1 p2 => by
    have := meetM_any (rowM y) (rowM x) g bx cg cx w' h1 h2 p1 p2 (rowM_wf H.wy) (rowM_wf H.wx) H.ly H.lx
    rw [H.m2] at this; exact this
  have hM := H.M
  have hX := H.X
  have hY := H.Y
  have pM := H.pM
  have pX := H.pX
  have pY := H.pY
  have d1 : (x.n != cols) = false := by simpa using H.xn
  have d2 : (y.n != rows) = false := by simpa using H.yn
  clear H
  go_enter Try.func144, Try.ntmps144
  refine seq_stop ?_
  go_wp2
  refine stop_go (fun W hW => ?_)
  have s1 : w.heap.size < W.heap.size := by rw [hW]; simp only [World.size_alloc]; omega
  have b1 : ∀ i, W.cell? ⟨w.heap.size, i, none⟩ = (#[(.slice (some ⟨bm, 0, none⟩) m.ws.length cm), .int .i64 m.off, .int .i64 m.rows, .int .i64 m.cols, .int .i64 m.ld] : Array Value)[i]? := by intro i; rw [hW]; go_simp
  have s2 : w.heap.size + 1 < W.heap.size := by rw [hW]; simp only [World.size_alloc]; omega
  have b2 : ∀ i, W.cell? ⟨w.heap.size + 1, i, none⟩ = (#[(.slice (some ⟨bx, 0, none⟩) x.ws.length cx), .int .i64 x.off, .int .i64 x.n, .int .i64 x.inc] : Array Value)[i]? := by intro i; rw [hW]; go_simp
  have s3 : w.heap.size + 1 + 1 < W.heap.size := by rw [hW]; simp only [World.size_alloc]; omega
  have b3 : ∀ i, W.cell? ⟨w.heap.size + 1 + 1, i, none⟩ = (#[(.slice (some ⟨g, 0, none⟩) y.ws.length cg), .int .i64 y.off, .int .i64 y.n, .int .i64 y.inc] : Array Value)[i]? := by intro i; rw [hW]; go_simp
  have g0 : Grew w W := by rw [hW]; exact (((Grew.refl _).alloc _).alloc _).alloc _
  clear hW
  have hMW := hM.grew g0
  have hXW := hX.grew g0
  have hYW := hY.grew g0
  go_wp2_with (first | (go_at_call 130; ((with_reducible refine (cG _ ?_).mono ?_); (focus (first | (with_reducible assumption) | (with_reducible refine FS.ext ?_ _ _; with_reducible assumption) | (with_reducible refine IS.ext ?_ _ _; with_reducible assumption) | (refine hDu _ ?_; with_reducible assumption) | (refine hOu _ ?_; with_reducible assumption) | (refine hDa _ ?_; with_reducible assumption) | (refine hDb _ ?_; with_reducible assumption) | (refine hDc _ ?_; with_reducible assumption) | (refine hDd _ ?_; with_reducible assumption) | (refine FW.fs ?_ (by omega) _; with_reducible assumption) | (refine WS.fs ?_; with_reducible assumption) | (refine FW.fs ?_ (by omega) _; assumption) | omega | assumption)); rintro e w1 ⟨rfl, oa, na, rfl⟩)) | (go_at_call 135; ((with_reducible refine (cX _ ?_).mono ?_); (focus (first | (with_reducible assumption) | (with_reducible refine FS.ext ?_ _ _; with_reducible assumption) | (with_reducible refine IS.ext ?_ _ _; with_reducible assumption) | (refine hDu _ ?_; with_reducible assumption) | (refine hOu _ ?_; with_reducible assumption) | (refine hDa _ ?_; with_reducible assumption) | (refine hDb _ ?_; with_reducible assumption) | (refine hDc _ ?_; with_reducible assumption) | (refine hDd _ ?_; with_reducible assumption) | (refine FW.fs ?_ (by omega) _; with_reducible assumption) | (refine WS.fs ?_; with_reducible assumption) | (refine FW.fs ?_ (by omega) _; assumption) | omega | assumption)); rintro e w1 ⟨rfl, ob, nb, rfl⟩)) | (go_at_call 135; ((with_reducible refine (cY _ ?_).mono ?_); (focus (first | (with_reducible assumption) | (with_reducible refine FS.ext ?_ _ _; with_reducible assumption) | (with_reducible refine IS.ext ?_ _ _; with_reducible assumption) | (refine hDu _ ?_; with_reducible assumption) | (refine hOu _ ?_; with_reducible assumption) | (refine hDa _ ?_; with_reducible assumption) | (refine hDb _ ?_; with_reducible assumption) | (refine hDc _ ?_; with_reducible assumption) | (refine hDd _ ?_; with_reducible assumption) | (refine FW.fs ?_ (by omega) _; with_reducible assumption) | (refine WS.fs ?_; with_reducible assumption) | (refine FW.fs ?_ (by omega) _; assumption) | omega | assumption)); rintro e w1 ⟨rfl, oc, nc, rfl⟩)))
  refine wp_region_R (Grew W) [] [(0,0), (0,2), (1,1), (1,3), (0,4), (0,5), (0,7), (1,6), (1,8), (1,9), (0,10), (0,11)] (by kernel_rfl) (by kernel_rfl) (fun _ _ _ _ h _ => h) (by first | exact ⟨_, _, ext_drew⟩ | exact ⟨_, _, drew_ext0⟩ | (show Grew _ _; repeat (first | (with_reducible exact Grew.refl _) | (with_reducible assumption) | (with_reducible exact Grew.same_o) | (with_reducible exact Grew.app_o) | (with_reducible refine Grew.ext ?_ _ _) | (with_reducible refine Grew.alloc ?_ _) | ((with_reducible refine Grew.setCell ?_ ?_ _); rotate_left; (focus (dsimp only; first | omega | (simp only [size_ext, World.size_alloc, Array.size_append]; omega)))) | (with_reducible refine Grew.drewN ?_ _) | (with_reducible refine Grew.drew ?_)))) ?_
  go_wp2_with (first | ((with_reducible refine wpR_id ?_); first | (refine wpR_take (v := ?_) rfl rfl ?_ ?_; rotate_left; (focus (rintro w' ⟨o', n', rfl⟩; go_simp; try with_reducible rfl)); simp only [Act.put, List.setIfInBounds_toArray, List.set_cons_zero, List.set_cons_succ]) | (refine wpR_pure (v := ?_) rfl rfl ?_ ?_; rotate_left; (focus (intro w'; go_simp; try with_reducible rfl)); simp only [Act.put, List.setIfInBounds_toArray, List.set_cons_zero, List.set_cons_succ]) | (refine wpR_takeG (v := ?_) rfl rfl rfl rfl rfl ?_ ?_; rotate_left; (focus (rintro w' ⟨o', n', rfl⟩; go_simp; try with_reducible rfl)); simp only [Act.put, List.setIfInBounds_toArray, List.set_cons_zero, List.set_cons_succ]) | (refine wpR_skip rfl rfl rfl rfl rfl rfl ?_; simp only [Act.put, List.setIfInBounds_toArray, List.set_cons_zero, List.set_cons_succ]) | (refine wpR_skipU rfl rfl rfl rfl rfl ?_; simp only [Act.put, List.setIfInBounds_toArray, List.set_cons_zero, List.set_cons_succ]) | (refine wpR_do rfl rfl (fun K hK => ?_)) | (refine wpR_doG rfl rfl rfl rfl rfl (fun K hK => ?_)) | (refine wpR_last rfl rfl (fun K hK => ?_)) | (refine wpR_nil ?_)) | ((with_reducible refine wpR_go ?_ ?_); (focus exact ⟨_, _, rfl⟩)) | ((with_reducible refine upon_id ?_); refine upon_fop rfl (by assumption) (by assumption) ?_; intro rr nn hr) | (go_at_call 196; ((with_reducible refine (vrow_any y _ _ _ _).mono ?_); rintro e w1 ⟨rfl, od, nd, rfl⟩)) | (go_at_call 196; ((with_reducible refine (vrow_any x _ _ _ _).mono ?_); rintro e w1 ⟨rfl, od, nd, rfl⟩)) | (go_at_call 136; ((with_reducible refine (cM1 _ ?_ ?_ (pY.grew (by (show Grew _ _; repeat (first | (with_reducible exact Grew.refl _) | (with_reducible assumption) | (with_reducible exact Grew.same_o) | (with_reducible exact Grew.app_o) | (with_reducible refine Grew.ext ?_ _ _) | (with_reducible refine Grew.alloc ?_ _) | ((with_reducible refine Grew.setCell ?_ ?_ _); rotate_left; (focus (dsimp only; first | omega | (simp only [size_ext, World.size_alloc, Array.size_append]; omega)))) | (with_reducible refine Grew.drewN ?_ _) | (with_reducible refine Grew.drew ?_))))) (pM.grew (by (show Grew _ _; repeat (first | (with_reducible exact Grew.refl _) | (with_reducible assumption) | (with_reducible exact Grew.same_o) | (with_reducible exact Grew.app_o) | (with_reducible refine Grew.ext ?_ _ _) | (with_reducible refine Grew.alloc ?_ _) | ((with_reducible refine Grew.setCell ?_ ?_ _); rotate_left; (focus (dsimp only; first | omega | (simp only [size_ext, World.size_alloc, Array.size_append]; omega)))) | (with_reducible refine Grew.drewN ?_ _) | (with_reducible refine Grew.drew ?_)))))).mono ?_); (focus (first | (with_reducible assumption) | (with_reducible refine FS.ext ?_ _ _; with_reducible assumption) | (with_reducible refine IS.ext ?_ _ _; with_reducible assumption) | (refine hDu _ ?_; with_reducible assumption) | (refine hOu _ ?_; with_reducible assumption) | (refine hDa _ ?_; with_reducible assumption) | (refine hDb _ ?_; with_reducible assumption) | (refine hDc _ ?_; with_reducible assumption) | (refine hDd _ ?_; with_reducible assumption) | (refine FW.fs ?_ (by omega) _; with_reducible assumption) | (refine WS.fs ?_; with_reducible assumption) | (refine FW.fs ?_ (by omega) _; assumption) | omega | assumption)); (focus (first | (with_reducible assumption) | (with_reducible refine FS.ext ?_ _ _; with_reducible assumption) | (with_reducible refine IS.ext ?_ _ _; with_reducible assumption) | (refine hDu _ ?_; with_reducible assumption) | (refine hOu _ ?_; with_reducible assumption) | (refine hDa _ ?_; with_reducible assumption) | (refine hDb _ ?_; with_reducible assumption) | (refine hDc _ ?_; with_reducible assumption) | (refine hDd _ ?_; with_reducible assumption) | (refine FW.fs ?_ (by omega) _; with_reducible assumption) | (refine WS.fs ?_; with_reducible assumption) | (refine FW.fs ?_ (by omega) _; assumption) | omega | assumption)); rintro e w1 ⟨rfl, oe, ne, rfl⟩)) | (go_at_call 136; ((with_reducible refine (cM2 _ ?_ ?_ (pY.grew (by (show Grew _ _; repeat (first | (with_reducible exact Grew.refl _) | (with_reducible assumption) | (with_reducible exact Grew.same_o) | (with_reducible exact Grew.app_o) | (with_reducible refine Grew.ext ?_ _ _) | (with_reducible refine Grew.alloc ?_ _) | ((with_reducible refine Grew.setCell ?_ ?_ _); rotate_left; (focus (dsimp only; first | omega | (simp only [size_ext, World.size_alloc, Array.size_append]; omega)))) | (with_reducible refine Grew.drewN ?_ _) | (with_reducible refine Grew.drew ?_))))) (pX.grew (by (show Grew _ _; repeat (first | (with_reducible exact Grew.refl _) | (with_reducible assumption) | (with_reducible exact Grew.same_o) | (with_reducible exact Grew.app_o) | (with_reducible refine Grew.ext ?_ _ _) | (with_reducible refine Grew.alloc ?_ _) | ((with_reducible refine Grew.setCell ?_ ?_ _); rotate_left; (focus (dsimp only; first | omega | (simp only [size_ext, World.size_alloc, Array.size_append]; omega)))) | (with_reducible refine Grew.drewN ?_ _) | (with_reducible refine Grew.drew ?_)))))).mono ?_); (focus (first | (with_reducible assumption) | (with_reducible refine FS.ext ?_ _ _; with_reducible assumption) | (with_reducible refine IS.ext ?_ _ _; with_reducible assumption) | (refine hDu _ ?_; with_reducible assumption) | (refine hOu _ ?_; with_reducible assumption) | (refine hDa _ ?_; with_reducible assumption) | (refine hDb _ ?_; with_reducible assumption) | (refine hDc _ ?_; with_reducible assumption) | (refine hDd _ ?_; with_reducible assumption) | (refine FW.fs ?_ (by omega) _; with_reducible assumption) | (refine WS.fs ?_; with_reducible assumption) | (refine FW.fs ?_ (by omega) _; assumption) | omega | assumption)); (focus (first | (with_reducible assumption) | (with_reducible refine FS.ext ?_ _ _; with_reducible assumption) | (with_reducible refine IS.ext ?_ _ _; with_reducible assumption) | (refine hDu _ ?_; with_reducible assumption) | (refine hOu _ ?_; with_reducible assumption) | (refine hDa _ ?_; with_reducible assumption) | (refine hDb _ ?_; with_reducible assumption) | (refine hDc _ ?_; with_reducible assumption) | (refine hDd _ ?_; with_reducible assumption) | (refine FW.fs ?_ (by omega) _; with_reducible assumption) | (refine WS.fs ?_; with_reducible assumption) | (refine FW.fs ?_ (by omega) _; assumption) | omega | assumption)); rintro e w1 ⟨rfl, of, nf, rfl⟩)))
  go_ret
  exact ⟨rfl, by (show Grew _ _; repeat (first | (with_reducible exact Grew.refl _) | (with_reducible assumption) | (with_reducible exact Grew.same_o) | (with_reducible exact Grew.app_o) | (with_reducible refine Grew.ext ?_ _ _) | (with_reducible refine Grew.alloc ?_ _) | ((with_reducible refine Grew.setCell ?_ ?_ _); rotate_left; (focus (dsimp only; first | omega | (simp only [size_ext, World.size_alloc, Array.size_append]; omega)))) | (with_reducible refine Grew.drewN ?_ _) | (with_reducible refine Grew.drew ?_)))⟩
set_option maxRecDepth 100000 in
set_option maxHeartbeats 2000000 in
/-- gemv.Mul, where all is well. -/
theorem mul_ok (a α b β : Nat) (m : MatM) (x y : VecM) (bm cm bx cx g cg : Nat) (w : World) (ha : IsF a α) (hb : IsF b β) (H : MulOk m x y bm cm bx cx g cg m.rows m.cols w) (hF : FW w g y.ws) (hy0 : 0 < y.n) (hmg : bm = g → m.ws = y.ws) (hxg : bx = g → x.ws = y.ws) (kbm : bm < w.heap.size) (kbx : bx < w.heap.size) :
   Calls Try.prog 71 #[.float .f64 a, .agg #[(.slice (some ⟨bm, 0, none⟩) m.ws.length cm), .int .i64 m.off, .int .i64 m.rows, .int .i64 m.cols, .int .i64 m.ld], .agg #[(.slice (some ⟨bx, 0, none⟩) x.ws.length cx), .int .i64 x.off, .int .i64 x.n, .int .i64 x.inc], .float .f64 b, .agg #[(.slice (some ⟨g, 0, none⟩) y.ws.length cg), .int .i64 y.off, .int .i64 y.n, .int .i64 y.inc]] w
     (fun e w' => e = .returned (.int .i64 0) ∧ But w [g] w' ∧ ∃ L, FW w' g L ∧ VH y L (fun r => mulTo α m.num x.num (beginF β (y.num r)) r x.n.toNat)) := by
  have hck : ∀ w', Grew w w' → Calls Try.prog 144 #[.agg #[(.slice (some ⟨bm, 0, none⟩) m.ws.length cm), .int .i64 m.off, .int .i64 m.rows, .int .i64 m.cols, .int .i64 m.ld], .int .i64 m.rows, .int .i64 m.cols, .agg #[(.slice (some ⟨bx, 0, none⟩) x.ws.length cx), .int .i64 x.off, .int .i64 x.n, .int .i64 x.inc], .agg #[(.slice (some ⟨g, 0, none⟩) y.ws.length cg), .int .i64 y.off, .int .i64 y.n, .int .i64 y.inc]] w' (fun e w2 => e = .returned (.int .i64 0) ∧ ∃ o n, w2 = ext w' o n) := fun w' hg =>
    vcheck_ok m x y bm cm bx cx g cg m.rows m.cols w' ⟨H.M.grew hg, H.X.grew hg, H.Y.grew hg, H.pM.grew hg, H.pX.grew hg, H.pY.grew hg, H.good, H.rx, H.ry, H.xn, H.yn, H.m1, H.m2, H.wm, H.wx, H.wy, H.lm, H.lx, H.ly⟩
  have hltg := hF.lt
  have H' := hid H
  have hny := VecM.right_n H.ry
  have Hmg := hid hmg
  have Hxg := hid hxg
  have d0 : decide (0 < y.n) = true := by simpa using hy0
  clear H hmg hxg
  go_enter Try.func71, Try.ntmps71
  refine seq_stop ?_
  go_wp2
  refine stop_go (fun W hW => ?_)
  have s1 : w.heap.size < W.heap.size := by rw [hW]; simp only [World.size_alloc]; omega
  have b1 : ∀ i, W.cell? ⟨w.heap.size, i, none⟩ = (#[.float .f64 a] : Array Value)[i]? := by intro i; rw [hW]; go_simp
  have s2 : w.heap.size + 1 < W.heap.size := by rw [hW]; simp only [World.size_alloc]; omega
  have b2 : ∀ i, W.cell? ⟨w.heap.size + 1, i, none⟩ = (#[(.slice (some ⟨bm, 0, none⟩) m.ws.length cm), .int .i64 m.off, .int .i64 m.rows, .int .i64 m.cols, .int .i64 m.ld] : Array Value)[i]? := by intro i; rw [hW]; go_simp
  have s3 : w.heap.size + 1 + 1 < W.heap.size := by rw [hW]; simp only [World.size_alloc]; omega
  have b3 : ∀ i, W.cell? ⟨w.heap.size + 1 + 1, i, none⟩ = (#[(.slice (some ⟨bx, 0, none⟩) x.ws.length cx), .int .i64 x.off, .int .i64 x.n, .int .i64 x.inc] : Array Value)[i]? := by intro i; rw [hW]; go_simp
  have s4 : w.heap.size + 1 + 1 + 1 < W.heap.size := by rw [hW]; simp only [World.size_alloc]; omega
  have b4 : ∀ i, W.cell? ⟨w.heap.size + 1 + 1 + 1, i, none⟩ = (#[(.slice (some ⟨g, 0, none⟩) y.ws.length cg), .int .i64 y.off, .int .i64 y.n, .int .i64 y.inc] : Array Value)[i]? := by intro i; rw [hW]; go_simp
  have g0 : Grew w W := by rw [hW]; exact ((((Grew.refl _).alloc _).alloc _).alloc _).alloc _
  clear hW
  have hFW := hF.grew g0
  have zW := g0.below.size
  have hmf := hmf
  go_wp2_with (first | (go_at_call 144; ((with_reducible refine (hck _ (g0.trans (by (show Grew _ _; repeat (first | (with_reducible exact Grew.refl _) | (with_reducible assumption) | (with_reducible exact Grew.same_o) | (with_reducible exact Grew.app_o) | (with_reducible refine Grew.ext ?_ _ _) | (with_reducible refine Grew.alloc ?_ _) | ((with_reducible refine Grew.setCell ?_ ?_ _); rotate_left; (focus (dsimp only; first | omega | (simp only [size_ext, World.size_alloc, Array.size_append]; omega)))) | (with_reducible refine Grew.drewN ?_ _) | (with_reducible refine Grew.drew ?_)))))).mono ?_); rintro e w1 ⟨rfl, oa, na, rfl⟩)))
  refine name_call (fun V hV => ?_)
  have gV : Grew W V := by rw [← hV]; (show Grew _ _; repeat (first | (with_reducible exact Grew.refl _) | (with_reducible assumption) | (with_reducible exact Grew.same_o) | (with_reducible exact Grew.app_o) | (with_reducible refine Grew.ext ?_ _ _) | (with_reducible refine Grew.alloc ?_ _) | ((with_reducible refine Grew.setCell ?_ ?_ _); rotate_left; (focus (dsimp only; first | omega | (simp only [size_ext, World.size_alloc, Array.size_append]; omega)))) | (with_reducible refine Grew.drewN ?_ _) | (with_reducible refine Grew.drew ?_)))
  have gw : Grew w V := g0.trans gV
  have zV := gV.below.size
  have hFV := hF.grew gw
  have c1 : ∀ w', But V [g] w' → ∀ i, w'.cell? ⟨w.heap.size, i, none⟩ = (#[.float .f64 a] : Array Value)[i]? := fun w' h i => (h.cell (by omega) (by simp; omega)).trans ((gV.cell s1).trans (b1 i))
  have c2 : ∀ w', But V [g] w' → ∀ i, w'.cell? ⟨w.heap.size + 1, i, none⟩ = (#[(.slice (some ⟨bm, 0, none⟩) m.ws.length cm), .int .i64 m.off, .int .i64 m.rows, .int .i64 m.cols, .int .i64 m.ld] : Array Value)[i]? := fun w' h i => (h.cell (by omega) (by simp; omega)).trans ((gV.cell s2).trans (b2 i))
  have c3 : ∀ w', But V [g] w' → ∀ i, w'.cell? ⟨w.heap.size + 1 + 1, i, none⟩ = (#[(.slice (some ⟨bx, 0, none⟩) x.ws.length cx), .int .i64 x.off, .int .i64 x.n, .int .i64 x.inc] : Array Value)[i]? := fun w' h i => (h.cell (by omega) (by simp; omega)).trans ((gV.cell s3).trans (b3 i))
  have c4 : ∀ w', But V [g] w' → ∀ i, w'.cell? ⟨w.heap.size + 1 + 1 + 1, i, none⟩ = (#[(.slice (some ⟨g, 0, none⟩) y.ws.length cg), .int .i64 y.off, .int .i64 y.n, .int .i64 y.inc] : Array Value)[i]? := fun w' h i => (h.cell (by omega) (by simp; omega)).trans ((gV.cell s4).trans (b4 i))
  clear hV b1 b2 b3 b4 hck
  refine (begin_any b β y g cg y.num y.ws V hb hFV (VH.start y) H'.out.ry H'.out.ly).mono ?_
  rintro e w1 ⟨rfl, hB1, L1, hL1, hS1⟩
  have t1 := c2 _ hB1
  have t2 := c3 _ hB1
  have t3 := c4 _ hB1
  have z1 := hB1.size
  have k1 : w.heap.size + 1 < w1.heap.size := by omega
  have k2 : w.heap.size + 1 + 1 < w1.heap.size := by omega
  have k3 : w.heap.size + 1 + 1 + 1 < w1.heap.size := by omega
  have bw : ∀ w', But w1 [g] w' → But w [g] w' := fun w' h => (((But.refl w [g]).grew gw).trans hB1 (fun _ hb => .inl hb)).trans h (fun _ hb => .inl hb)
  have bV : ∀ w', But w1 [g] w' → But V [g] w' := fun w' h => hB1.trans h (fun _ hb => .inl hb)
  have hcol : Calls Try.prog 146 #[.agg #[(.slice (some ⟨bm, 0, none⟩) m.ws.length cm), .int .i64 m.off, .int .i64 m.rows, .int .i64 m.cols, .int .i64 m.ld], .agg #[(.slice (some ⟨bx, 0, none⟩) x.ws.length cx), .int .i64 x.off, .int .i64 x.n, .int .i64 x.inc], .agg #[(.slice (some ⟨g, 0, none⟩) y.ws.length cg), .int .i64 y.off, .int .i64 y.n, .int .i64 y.inc], .func (.func 147) #[] #[.pointer (some ⟨w.heap.size, 0, none⟩)]] w1
     (fun e w' => e = .returned (.tuple #[]) ∧ But w1 [g] w' ∧ ∃ L, FW w' g L ∧ VH y L (fun r => mulTo α m.num x.num (beginF β (y.num r)) r x.n.toNat)) := by
    have H := H'.out
    refine columns_any m x y bm cm bx cx g cg a α w.heap.size (fun r => beginF β (y.num r)) L1 w1 ha (fun i => c1 _ hB1 i) (by omega) (by omega) hL1 hS1 H.good H.rx H.ry H.wm H.xn H.yn hy0 H.lm H.lx H.ly ?_ ?_ ?_ (by have := gw.below.size; omega) (by have := gw.below.size; omega)
    · intro w' L s hB hL hS j hj
      have hr0 : 0 < m.rows := by have := H.yn; omega
      by_cases hbg : bm = g
      · have hl : L.length = m.ws.length := by rw [hS.len, Hmg.out hbg]
        have h1 := hL.fs (by rw [hl]; have := H.lm; omega) cm
        rw [hl, ← hbg] at h1
        have := col_any (withL m L) (.slice (some ⟨bm, 0, none⟩) m.ws.length cm) j w' h1 (by rw [withL_good hl]; exact H.good) H.wm hj
        have e : (colV (withL m L) j).off = m.off + j * m.ld := by unfold colV withL; simp [hr0]
        rw [e] at this
        exact this
      · have h1 := (bw _ hB).fs_ne H.M hbg
        have := col_any m (.slice (some ⟨bm, 0, none⟩) m.ws.length cm) j w' h1 H.good H.wm hj
        have e : (colV m j).off = m.off + j * m.ld := by unfold colV; simp [hr0]
        rw [e] at this
        exact this
    · intro i j hi hj w' L s hB hL hS
      have hpl := (MatM.places H.good).lt i j (by omega) (by omega)
      by_cases hbg : bm = g
      · have hm1 := H.m1
        rw [show decide (g = bm) = true by simpa using hbg.symm] at hm1
        obtain ⟨r, h1, h2⟩ := hL.get (i := m.place i j) (by rw [hS.len, ← Hmg.out hbg]; exact hpl)
        refine ⟨r, by rw [hbg]; exact h1, ?_⟩
        rw [hS.rest _ (fun q hq => meet_no H.ry H.good hm1 hq hi hj), ← Hmg.out hbg] at h2
        exact h2
      · have h1 := (bw _ hB).fs_ne H.M hbg
        obtain ⟨blk, o, h2, _, h3⟩ := h1.at.2 (by omega)
        cases h2
        obtain ⟨r, h4, h5⟩ := h3 _ hpl
        rw [Nat.zero_add] at h4
        exact ⟨r, h4, h5⟩
    · intro j hj w' L s hB hL hS
      have hpl := VecM.place_lt H.rx hj
      by_cases hbg : bx = g
      · have hm2 := H.m2
        rw [show decide (g = bx) = true by simpa using hbg.symm] at hm2
        obtain ⟨r, h1, h2⟩ := hL.get (i := x.place j) (by rw [hS.len, ← Hxg.out hbg]; exact hpl)
        refine ⟨r, by rw [hbg]; exact h1, ?_⟩
        have ep : (rowM x).place 0 j = x.place j := by unfold MatM.place VecM.place rowM; simp
        rw [hS.rest _ (fun q hq => by rw [← ep]; exact meet_no H.ry (rowM_good H.rx) hm2 hq (i := 0) (j := j) (by show (0 : Int) < 1; omega) hj), ← Hxg.out hbg] at h2
        exact h2
      · have h1 := (bw _ hB).fs_ne H.X hbg
        obtain ⟨blk, o, h2, _, h3⟩ := h1.at.2 (by omega)
        cases h2
        obtain ⟨r, h4, h5⟩ := h3 _ hpl
        rw [Nat.zero_add] at h4
        exact ⟨r, h4, h5⟩
  go_wp2_with (first | (go_at_call 146; ((with_reducible refine (hcol).mono ?_); rintro e w1 ⟨rfl, hB2, L2, hL2, hS2⟩)))
  go_ret
  exact ⟨rfl, bw _ hB2, L2, hL2, hS2⟩
end Go.Proofs.Ytcmggfpcbijcjaa
end
section
/-
  Contracts: a number of a vector, products of vectors, the place of the greatest (layer 5).
-/
set_option linter.unusedSimpArgs false
set_option linter.unusedVariables false
open Go Go.RowKit Sedge
namespace Go.Proofs.Ytcmggfpcbijcjaa
set_option maxHeartbeats 400000 in
theorem at_any (x : VecM) (D : Value) (i : Nat) (w : World) (hD : FS w D x.ws) (hr : x.right = true) (hi : (i : Int) < x.n) :
   Calls Try.prog 192 #[.agg #[D, .int .i64 x.off, .int .i64 x.n, .int .i64 x.inc], .int .i64 i] w (fun e w' => ∃ b, e = .returned (.float .f64 b) ∧ IsF b (x.num i) ∧ ∃ o n, w' = ext w o n) := by
  have hp := VecM.right_place hr hi
  have hn := VecM.right_n hr
  have hlen := hD.len
  obtain ⟨blk, o, cap, rfl, hlt, hc⟩ := hD.open (by omega)
  obtain ⟨b, hb, hf⟩ := hc (x.place i) (by unfold VecM.place; omega)
  unfold VecM.place at hb
  have h2 : IntKind.i64.wrap (i * x.inc) = i * x.inc := IntWalk.i64_in _ (by omega)
  have h3 : IntKind.i64.wrap (x.off + i * x.inc) = x.off + i * x.inc := IntWalk.i64_in _ (by omega)
  clear hc
  go_enter Try.func192, Try.ntmps192
  go_wp2
  go_ret
  exact ⟨b, rfl, hf, (Grew.refl _).alloc _⟩

/-- The sum of products, in its order. -/
def dotTo (x y : VecM) : Nat → Nat
  | 0 => 0
  | k + 1 => fadd (dotTo x y k) (fmul (x.num k) (y.num k))
set_option maxRecDepth 100000 in
set_option maxHeartbeats 1000000 in
theorem dot_ok (x y : VecM) (D E : Value) (w : World) (hD : FS w D x.ws) (hE : FS w E y.ws) (hxw : x.wf) (hyw : y.wf) (hx : x.right = true) (hy : y.right = true) (hn : x.n = y.n) :
   Calls Try.prog 128 #[.agg #[D, .int .i64 x.off, .int .i64 x.n, .int .i64 x.inc], .agg #[E, .int .i64 y.off, .int .i64 y.n, .int .i64 y.inc]] w
    (fun e w' => ∃ b, e = .returned (.tuple #[.float .f64 b, .int .i64 0]) ∧ IsF b (dotTo x y x.n.toNat) ∧ ∃ o n, w' = ext w o n) := by
  have hx0 : 0 ≤ x.n := by have := VecM.right_n hx; omega
  have hx1 : x.n ≤ 9223372036854775807 := by have := hxw.2.1.2; omega
  have k1 : (!x.right) = false := by simp [hx]
  have k2 : (!y.right) = false := by simp [hy]
  have k3 : (x.n != y.n) = false := by simp [hn]
  have Hx := hid hx
  have Hy := hid hy
  have Hn := hid hn
  have Hw1 := hid hxw
  have Hw2 := hid hyw
  clear hn hxw hyw hx hy
  go_enter Try.func128, Try.ntmps128
  refine seq_stop ?_
  go_wp2
  refine stop_go (fun W hW => ?_)
  have s1 : w.heap.size < W.heap.size := by rw [hW]; simp only [World.size_alloc]; omega
  have b1 : ∀ i, W.cell? ⟨w.heap.size, i, none⟩ = (#[D, .int .i64 x.off, .int .i64 x.n, .int .i64 x.inc] : Array Value)[i]? := by intro i; rw [hW]; go_simp
  have s2 : w.heap.size + 1 < W.heap.size := by rw [hW]; simp only [World.size_alloc]; omega
  have b2 : ∀ i, W.cell? ⟨w.heap.size + 1, i, none⟩ = (#[E, .int .i64 y.off, .int .i64 y.n, .int .i64 y.inc] : Array Value)[i]? := by intro i; rw [hW]; go_simp
  have g0 : Grew w W := by rw [hW]; exact ((Grew.refl _).alloc _).alloc _
  clear hW
  have hDW : FS W D x.ws := hD.grew g0
  have hEW : FS W E y.ws := hE.grew g0
  go_wp2_with (first | (go_at_call 135; ((with_reducible refine (right_any x D _ ?_ Hw1.out).mono ?_); (focus (first | (with_reducible assumption) | (with_reducible refine FS.ext ?_ _ _; with_reducible assumption) | (with_reducible refine IS.ext ?_ _ _; with_reducible assumption) | (refine hDu _ ?_; with_reducible assumption) | (refine hOu _ ?_; with_reducible assumption) | (refine hDa _ ?_; with_reducible assumption) | (refine hDb _ ?_; with_reducible assumption) | (refine hDc _ ?_; with_reducible assumption) | (refine hDd _ ?_; with_reducible assumption) | (refine FW.fs ?_ (by omega) _; with_reducible assumption) | (refine WS.fs ?_; with_reducible assumption) | (refine FW.fs ?_ (by omega) _; assumption) | omega | assumption)); rintro e w1 ⟨rfl, o1, n1, rfl⟩)) | (go_at_call 135; ((with_reducible refine (right_any y E _ ?_ Hw2.out).mono ?_); (focus (first | (with_reducible assumption) | (with_reducible refine FS.ext ?_ _ _; with_reducible assumption) | (with_reducible refine IS.ext ?_ _ _; with_reducible assumption) | (refine hDu _ ?_; with_reducible assumption) | (refine hOu _ ?_; with_reducible assumption) | (refine hDa _ ?_; with_reducible assumption) | (refine hDb _ ?_; with_reducible assumption) | (refine hDc _ ?_; with_reducible assumption) | (refine hDd _ ?_; with_reducible assumption) | (refine FW.fs ?_ (by omega) _; with_reducible assumption) | (refine WS.fs ?_; with_reducible assumption) | (refine FW.fs ?_ (by omega) _; assumption) | omega | assumption)); rintro e w1 ⟨rfl, o1, n1, rfl⟩)))
  go_loopw [6, 25] (fun s c wr => ∃ (j : Nat) (b : Nat), (j : Int) ≤ x.n ∧ c = .int .i64 j ∧ s = .float .f64 b ∧ IsF b (dotTo x y j) ∧
     ∃ o n, wr = ext W o n) (fun _ c _ => (x.n - intOf c).toNat)
  case atStart => exact ⟨0, 0, hx0, rfl, rfl, isF_zero, _, _, rfl⟩
  case round =>
    obtain ⟨j, b, hj, rfl, rfl, hb, o3, n3, hwr⟩ := hrel
    subst hwr
    by_cases hlt : (j : Int) < x.n
    · have hlt2 : (j : Int) < y.n := by have := Hn.out; omega
      go_wp2
      refine wp_region_R (Grew W) [] [(0,0), (0,1), (0,2), (0,4), (0,5), (1,3), (1,6), (1,7), (1,8), (0,9)] (by kernel_rfl) (by kernel_rfl) (fun _ _ _ _ h _ => h) (by first | exact ⟨_, _, ext_drew⟩ | exact ⟨_, _, drew_ext0⟩ | (show Grew _ _; repeat (first | (with_reducible exact Grew.refl _) | (with_reducible assumption) | (with_reducible exact Grew.same_o) | (with_reducible exact Grew.app_o) | (with_reducible refine Grew.ext ?_ _ _) | (with_reducible refine Grew.alloc ?_ _) | ((with_reducible refine Grew.setCell ?_ ?_ _); rotate_left; (focus (dsimp only; first | omega | (simp only [size_ext, World.size_alloc, Array.size_append]; omega)))) | (with_reducible refine Grew.drewN ?_ _) | (with_reducible refine Grew.drew ?_)))) ?_
      go_wp2_with (first | ((with_reducible refine wpR_id ?_); first | (refine wpR_take (v := ?_) rfl rfl ?_ ?_; rotate_left; (focus (rintro w' ⟨o', n', rfl⟩; go_simp; try with_reducible rfl)); simp only [Act.put, List.setIfInBounds_toArray, List.set_cons_zero, List.set_cons_succ]) | (refine wpR_pure (v := ?_) rfl rfl ?_ ?_; rotate_left; (focus (intro w'; go_simp; try with_reducible rfl)); simp only [Act.put, List.setIfInBounds_toArray, List.set_cons_zero, List.set_cons_succ]) | (refine wpR_takeG (v := ?_) rfl rfl rfl rfl rfl ?_ ?_; rotate_left; (focus (rintro w' ⟨o', n', rfl⟩; go_simp; try with_reducible rfl)); simp only [Act.put, List.setIfInBounds_toArray, List.set_cons_zero, List.set_cons_succ]) | (refine wpR_skip rfl rfl rfl rfl rfl rfl ?_; simp only [Act.put, List.setIfInBounds_toArray, List.set_cons_zero, List.set_cons_succ]) | (refine wpR_skipU rfl rfl rfl rfl rfl ?_; simp only [Act.put, List.setIfInBounds_toArray, List.set_cons_zero, List.set_cons_succ]) | (refine wpR_do rfl rfl (fun K hK => ?_)) | (refine wpR_doG rfl rfl rfl rfl rfl (fun K hK => ?_)) | (refine wpR_last rfl rfl (fun K hK => ?_)) | (refine wpR_nil ?_)) | ((with_reducible refine wpR_go ?_ ?_); (focus exact ⟨_, _, rfl⟩)) | ((with_reducible refine upon_id ?_); refine upon_fop rfl (by assumption) (by assumption) ?_; intro rr nn hr) | (go_at_call 192; ((with_reducible refine (at_any x D _ _ ?_ Hx.out hlt).mono ?_); (focus (first | (with_reducible assumption) | (with_reducible refine FS.ext ?_ _ _; with_reducible assumption) | (with_reducible refine IS.ext ?_ _ _; with_reducible assumption) | (refine hDu _ ?_; with_reducible assumption) | (refine hOu _ ?_; with_reducible assumption) | (refine hDa _ ?_; with_reducible assumption) | (refine hDb _ ?_; with_reducible assumption) | (refine hDc _ ?_; with_reducible assumption) | (refine hDd _ ?_; with_reducible assumption) | (refine FW.fs ?_ (by omega) _; with_reducible assumption) | (refine WS.fs ?_; with_reducible assumption) | (refine FW.fs ?_ (by omega) _; assumption) | omega | assumption)); rintro e w1 ⟨bx, rfl, hbx, o4, n4, rfl⟩)) | (go_at_call 192; ((with_reducible refine (at_any y E _ _ ?_ Hy.out hlt2).mono ?_); (focus (first | (with_reducible assumption) | (with_reducible refine FS.ext ?_ _ _; with_reducible assumption) | (with_reducible refine IS.ext ?_ _ _; with_reducible assumption) | (refine hDu _ ?_; with_reducible assumption) | (refine hOu _ ?_; with_reducible assumption) | (refine hDa _ ?_; with_reducible assumption) | (refine hDb _ ?_; with_reducible assumption) | (refine hDc _ ?_; with_reducible assumption) | (refine hDd _ ?_; with_reducible assumption) | (refine FW.fs ?_ (by omega) _; with_reducible assumption) | (refine WS.fs ?_; with_reducible assumption) | (refine FW.fs ?_ (by omega) _; assumption) | omega | assumption)); rintro e w1 ⟨bx, rfl, hbx, o4, n4, rfl⟩)))
      go_roundw
      case rel => exact ⟨j + 1, rr, by omega, by go_num, rfl, hr, _, _, rfl⟩
      case measure => simp [intOf]; omega
    · go_wp2
      go_ret2
      have e : x.n.toNat = j := by omega
      exact ⟨b, rfl, by rw [e]; exact hb, g0.ext _ _⟩

/-- The place of the greatest number without its sign, so far; -1: none. -/
def mostTo (x : VecM) : Nat → Int
  | 0 => -1
  | k + 1 => if mostTo x k < 0 ∨ fgt (fabs (x.num k)) (fabs (x.num (mostTo x k).toNat)) = true then k else mostTo x k
theorem mostTo_range (x : VecM) : ∀ k, -1 ≤ mostTo x k ∧ mostTo x k < k
  | 0 => by simp [mostTo]
  | k + 1 => by
    have := mostTo_range x k
    unfold mostTo
    split <;> omega
set_option maxRecDepth 100000 in
set_option maxHeartbeats 2000000 in
theorem most_ok (x : VecM) (D : Value) (w : World) (hD : FS w D x.ws) (hxw : x.wf) (hx : x.right = true) :
   Calls Try.prog 127 #[.agg #[D, .int .i64 x.off, .int .i64 x.n, .int .i64 x.inc]] w
    (fun e w' => e = .returned (.tuple #[.int .i64 (mostTo x x.n.toNat), .int .i64 0]) ∧ ∃ o n, w' = ext w o n) := by
  have hx0 : 0 ≤ x.n := by have := VecM.right_n hx; omega
  have hx1 : x.n ≤ 9223372036854775807 := by have := hxw.2.1.2; omega
  have k1 : (!x.right) = false := by simp [hx]
  have Hx := hid hx
  have Hw1 := hid hxw
  clear hxw hx
  go_enter Try.func127, Try.ntmps127
  refine seq_stop ?_
  go_wp2
  refine stop_go (fun W hW => ?_)
  have s1 : w.heap.size < W.heap.size := by rw [hW]; simp only [World.size_alloc]; omega
  have b1 : ∀ i, W.cell? ⟨w.heap.size, i, none⟩ = (#[D, .int .i64 x.off, .int .i64 x.n, .int .i64 x.inc] : Array Value)[i]? := by intro i; rw [hW]; go_simp
  have g0 : Grew w W := by rw [hW]; exact (Grew.refl _).alloc _
  clear hW
  have hDW : FS W D x.ws := hD.grew g0
  go_wp2_with (first | (go_at_call 135; ((with_reducible refine (right_any x D _ ?_ Hw1.out).mono ?_); (focus (first | (with_reducible assumption) | (with_reducible refine FS.ext ?_ _ _; with_reducible assumption) | (with_reducible refine IS.ext ?_ _ _; with_reducible assumption) | (refine hDu _ ?_; with_reducible assumption) | (refine hOu _ ?_; with_reducible assumption) | (refine hDa _ ?_; with_reducible assumption) | (refine hDb _ ?_; with_reducible assumption) | (refine hDc _ ?_; with_reducible assumption) | (refine hDd _ ?_; with_reducible assumption) | (refine FW.fs ?_ (by omega) _; with_reducible assumption) | (refine WS.fs ?_; with_reducible assumption) | (refine FW.fs ?_ (by omega) _; assumption) | omega | assumption)); rintro e w1 ⟨rfl, o1, n1, rfl⟩)))
  go_loopw [4, 11] (fun s c wr => ∃ (j : Nat) (m : Int), (j : Int) ≤ x.n ∧ c = .int .i64 j ∧ s = .int .i64 m ∧ m = mostTo x j ∧
     ∃ o n, wr = ext W o n) (fun _ c _ => (x.n - intOf c).toNat)
  case atStart => exact ⟨0, -1, hx0, rfl, rfl, rfl, _, _, rfl⟩
  case round =>
    obtain ⟨j, m, hj, rfl, rfl, hm, o3, n3, hwr⟩ := hrel
    subst hwr
    have hmr := mostTo_range x j
    rw [← hm] at hmr
    have Hm := hid hm
    clear hm
    by_cases hlt : (j : Int) < x.n
    · by_cases hm0 : m < 0
      · go_wp2
        refine wp_region_R (Grew W) [] [(0,0), (0,1), (0,2), (0,3), (0,4), (0,7), (0,8), (1,5), (1,6), (1,9), (1,10), (0,11), (0,12)] (by kernel_rfl) (by kernel_rfl) (fun _ _ _ _ h _ => h) (by first | exact ⟨_, _, ext_drew⟩ | exact ⟨_, _, drew_ext0⟩ | (show Grew _ _; repeat (first | (with_reducible exact Grew.refl _) | (with_reducible assumption) | (with_reducible exact Grew.same_o) | (with_reducible exact Grew.app_o) | (with_reducible refine Grew.ext ?_ _ _) | (with_reducible refine Grew.alloc ?_ _) | ((with_reducible refine Grew.setCell ?_ ?_ _); rotate_left; (focus (dsimp only; first | omega | (simp only [size_ext, World.size_alloc, Array.size_append]; omega)))) | (with_reducible refine Grew.drewN ?_ _) | (with_reducible refine Grew.drew ?_)))) ?_
        go_wp2_with (first | ((with_reducible refine wpR_id ?_); first | (refine wpR_take (v := ?_) rfl rfl ?_ ?_; rotate_left; (focus (rintro w' ⟨o', n', rfl⟩; go_simp; try with_reducible rfl)); simp only [Act.put, List.setIfInBounds_toArray, List.set_cons_zero, List.set_cons_succ]) | (refine wpR_pure (v := ?_) rfl rfl ?_ ?_; rotate_left; (focus (intro w'; go_simp; try with_reducible rfl)); simp only [Act.put, List.setIfInBounds_toArray, List.set_cons_zero, List.set_cons_succ]) | (refine wpR_takeG (v := ?_) rfl rfl rfl rfl rfl ?_ ?_; rotate_left; (focus (rintro w' ⟨o', n', rfl⟩; go_simp; try with_reducible rfl)); simp only [Act.put, List.setIfInBounds_toArray, List.set_cons_zero, List.set_cons_succ]) | (refine wpR_skip rfl rfl rfl rfl rfl rfl ?_; simp only [Act.put, List.setIfInBounds_toArray, List.set_cons_zero, List.set_cons_succ]) | (refine wpR_skipU rfl rfl rfl rfl rfl ?_; simp only [Act.put, List.setIfInBounds_toArray, List.set_cons_zero, List.set_cons_succ]) | (refine wpR_do rfl rfl (fun K hK => ?_)) | (refine wpR_doG rfl rfl rfl rfl rfl (fun K hK => ?_)) | (refine wpR_last rfl rfl (fun K hK => ?_)) | (refine wpR_nil ?_)) | ((with_reducible refine wpR_go ?_ ?_); (focus exact ⟨_, _, rfl⟩)) | ((with_reducible refine upon_id ?_); refine upon_fop rfl (by assumption) (by assumption) ?_; intro rr nn hr))
        go_roundw
        case rel => exact ⟨j + 1, j, by omega, by go_num, rfl, by unfold mostTo; rw [if_pos (.inl (by rw [← Hm.out]; exact hm0))], _, _, rfl⟩
        case measure => simp [intOf]; omega
      · obtain ⟨m', rfl⟩ : ∃ m' : Nat, m = m' := ⟨m.toNat, by omega⟩
        have hlt2 : (m' : Int) < x.n := by omega
        have hm1 : decide ((m' : Int) < 0) = false := by simp
        go_wp2
        refine wp_region_R (Grew W) [] [(0,0), (0,1), (0,2), (0,3), (0,4), (0,7), (0,8), (1,5), (1,6), (1,9), (1,10), (0,11), (0,12)] (by kernel_rfl) (by kernel_rfl) (fun _ _ _ _ h _ => h) (by first | exact ⟨_, _, ext_drew⟩ | exact ⟨_, _, drew_ext0⟩ | (show Grew _ _; repeat (first | (with_reducible exact Grew.refl _) | (with_reducible assumption) | (with_reducible exact Grew.same_o) | (with_reducible exact Grew.app_o) | (with_reducible refine Grew.ext ?_ _ _) | (with_reducible refine Grew.alloc ?_ _) | ((with_reducible refine Grew.setCell ?_ ?_ _); rotate_left; (focus (dsimp only; first | omega | (simp only [size_ext, World.size_alloc, Array.size_append]; omega)))) | (with_reducible refine Grew.drewN ?_ _) | (with_reducible refine Grew.drew ?_)))) ?_
        go_wp2_with (first | ((with_reducible refine wpR_id ?_); first | (refine wpR_take (v := ?_) rfl rfl ?_ ?_; rotate_left; (focus (rintro w' ⟨o', n', rfl⟩; go_simp; try with_reducible rfl)); simp only [Act.put, List.setIfInBounds_toArray, List.set_cons_zero, List.set_cons_succ]) | (refine wpR_pure (v := ?_) rfl rfl ?_ ?_; rotate_left; (focus (intro w'; go_simp; try with_reducible rfl)); simp only [Act.put, List.setIfInBounds_toArray, List.set_cons_zero, List.set_cons_succ]) | (refine wpR_takeG (v := ?_) rfl rfl rfl rfl rfl ?_ ?_; rotate_left; (focus (rintro w' ⟨o', n', rfl⟩; go_simp; try with_reducible rfl)); simp only [Act.put, List.setIfInBounds_toArray, List.set_cons_zero, List.set_cons_succ]) | (refine wpR_skip rfl rfl rfl rfl rfl rfl ?_; simp only [Act.put, List.setIfInBounds_toArray, List.set_cons_zero, List.set_cons_succ]) | (refine wpR_skipU rfl rfl rfl rfl rfl ?_; simp only [Act.put, List.setIfInBounds_toArray, List.set_cons_zero, List.set_cons_succ]) | (refine wpR_do rfl rfl (fun K hK => ?_)) | (refine wpR_doG rfl rfl rfl rfl rfl (fun K hK => ?_)) | (refine wpR_last rfl rfl (fun K hK => ?_)) | (refine wpR_nil ?_)) | ((with_reducible refine wpR_go ?_ ?_); (focus exact ⟨_, _, rfl⟩)) | ((with_reducible refine upon_id ?_); refine upon_fop rfl (by assumption) (by assumption) ?_; intro rr nn hr) | (go_at_call 192; ((with_reducible refine (at_any x D j _ ?_ Hx.out hlt).mono ?_); (focus (first | (with_reducible assumption) | (with_reducible refine FS.ext ?_ _ _; with_reducible assumption) | (with_reducible refine IS.ext ?_ _ _; with_reducible assumption) | (refine hDu _ ?_; with_reducible assumption) | (refine hOu _ ?_; with_reducible assumption) | (refine hDa _ ?_; with_reducible assumption) | (refine hDb _ ?_; with_reducible assumption) | (refine hDc _ ?_; with_reducible assumption) | (refine hDd _ ?_; with_reducible assumption) | (refine FW.fs ?_ (by omega) _; with_reducible assumption) | (refine WS.fs ?_; with_reducible assumption) | (refine FW.fs ?_ (by omega) _; assumption) | omega | assumption)); rintro e w1 ⟨bx, rfl, hbx, o4, n4, rfl⟩)) | (go_at_call 192; ((with_reducible refine (at_any x D m' _ ?_ Hx.out hlt2).mono ?_); (focus (first | (with_reducible assumption) | (with_reducible refine FS.ext ?_ _ _; with_reducible assumption) | (with_reducible refine IS.ext ?_ _ _; with_reducible assumption) | (refine hDu _ ?_; with_reducible assumption) | (refine hOu _ ?_; with_reducible assumption) | (refine hDa _ ?_; with_reducible assumption) | (refine hDb _ ?_; with_reducible assumption) | (refine hDc _ ?_; with_reducible assumption) | (refine hDd _ ?_; with_reducible assumption) | (refine FW.fs ?_ (by omega) _; with_reducible assumption) | (refine WS.fs ?_; with_reducible assumption) | (refine FW.fs ?_ (by omega) _; assumption) | omega | assumption)); rintro e w1 ⟨by', rfl, hby, o4, n4, rfl⟩)) | (go_at_call 164; ((with_reducible refine (mabs_any _ _ _ (by assumption)).mono ?_); rintro e w1 ⟨ra, rfl, hra, rfl⟩)))
        · have q : fgt (fabs (x.num j)) (fabs (x.num m')) = true := gt_fact (by assumption) (by assumption) (by assumption)
          go_roundw
          case rel => exact ⟨j + 1, j, by omega, by go_num, rfl, by unfold mostTo; rw [if_pos (.inr (by rw [← Hm.out]; exact q))], _, _, rfl⟩
          case measure => simp [intOf]; omega
        · have q : fgt (fabs (x.num j)) (fabs (x.num m')) = false := gt_fact (by assumption) (by assumption) (by assumption)
          go_roundw
          case rel => exact ⟨j + 1, m', by omega, by go_num, rfl, by unfold mostTo; rw [if_neg (by rw [← Hm.out]; simp [q])]; exact Hm.out, _, _, rfl⟩
          case measure => simp [intOf]; omega
    · go_wp2
      go_ret2
      have e : x.n.toNat = j := by omega
      exact ⟨by rw [e, ← Hm.out]; rfl, g0.ext _ _⟩
end Go.Proofs.Ytcmggfpcbijcjaa
end
section
/-
  Plain: matrices that are laid out whole.
-/
set_option linter.unusedSimpArgs false
set_option linter.unusedVariables false
open Go Go.RowKit Sedge
namespace Go.Proofs.Ytcmggfpcbijcjaa
theorem place_inj {r i j a b : Nat} (hi : i < r) (ha : a < r) (h : i + j * r = a + b * r) : i = a ∧ j = b := by
  have h1 : (i + j * r) % r = i := by rw [Nat.add_mul_mod_self_right, Nat.mod_eq_of_lt hi]
  have h2 : (a + b * r) % r = a := by rw [Nat.add_mul_mod_self_right, Nat.mod_eq_of_lt ha]
  have e : i = a := by rw [← h1, h, h2]
  subst e
  have h3 : j * r = b * r := by omega
  exact ⟨rfl, Nat.eq_of_mul_eq_mul_right (by omega) h3⟩
theorem getD_set_self {l : List Nat} {k v : Nat} (h : k < l.length) : (l.set k v).getD k 0 = v := by
  rw [List.getD_eq_getElem?_getD, List.getElem?_set_self h]; rfl
theorem getD_set_ne {l : List Nat} {k m v : Nat} (h : k ≠ m) : (l.set k v).getD m 0 = l.getD m 0 := by
  rw [List.getD_eq_getElem?_getD, List.getElem?_set_ne h, ← List.getD_eq_getElem?_getD]
theorem place_lt2 {r c i j : Nat} (hi : i < r) (hj : j < c) : i + j * r < r * c := by
  have := Nat.mul_le_mul_right r (show j + 1 ≤ c by omega)
  rw [Nat.add_mul, Nat.mul_comm c r] at this; omega
theorem matd_good {L : List Nat} {r c : Nat} (h : L.length = r * c) (hr : 1 ≤ r) (hc : 1 ≤ c) : MatM.good ⟨L, 0, r, c, r⟩ = true := by
  simp only [MatM.good, fitsB, h, Bool.and_eq_true, Bool.or_eq_true, decide_eq_true_eq]
  have : ((c : Int) - 1) * r + ((r : Int) - 1) < (r * c : Nat) := by rw [Int.sub_mul, Int.one_mul, Int.natCast_mul, Int.mul_comm]; omega
  refine ⟨by omega, .inr ⟨by omega, by omega⟩⟩
theorem matd_place {L : List Nat} {r c i j : Nat} : MatM.place ⟨L, 0, r, c, r⟩ i j = i + j * r := by
  unfold MatM.place
  simp only
  rw [Int.zero_add, ← Int.natCast_mul, ← Int.natCast_add, Int.toNat_natCast]
end Go.Proofs.Ytcmggfpcbijcjaa
end
section
/-
  Plain: products of small whole numbers (GemvTurns, GemmWhole).
-/
set_option linter.unusedSimpArgs false
set_option linter.unusedVariables false
open Go Go.RowKit Sedge
namespace Go.Proofs.Ytcmggfpcbijcjaa
def sumI (f : Nat → Int) : Nat → Int
  | 0 => 0
  | n + 1 => sumI f n + f n
theorem sumI_congr {f g : Nat → Int} : ∀ n, (∀ m, m < n → f m = g m) → sumI f n = sumI g n
  | 0, _ => rfl
  | n + 1, h => by
    show sumI f n + f n = sumI g n + g n
    rw [sumI_congr n (fun m hm => h m (by omega)), h n (by omega)]
theorem sumI_le {f : Nat → Int} {B : Nat} : ∀ n, (∀ m, m < n → (f m).natAbs ≤ B) → (sumI f n).natAbs ≤ n * B
  | 0, _ => by show (0 : Int).natAbs ≤ _; omega
  | n + 1, h => by
    have h1 := sumI_le n (fun m hm => h m (by omega))
    have h2 := h n (by omega)
    show (sumI f n + f n).natAbs ≤ _
    rw [Nat.add_mul]; omega
theorem sumI_mul (a : Int) (f : Nat → Int) : ∀ n, sumI (fun m => a * f m) n = a * sumI f n
  | 0 => by show (0 : Int) = a * 0; omega
  | n + 1 => by
    show sumI (fun m => a * f m) n + a * f n = a * (sumI f n + f n)
    rw [sumI_mul a f n, Int.mul_add]
theorem mulTo_int {α : Nat} {a : Int} {M : Nat → Nat → Nat} {X : Nat → Nat} {z r : Nat} {zi : Int} {mi xi : Nat → Int} {B Z : Nat} (ha : WI α a) (hz : WI z zi) (hZ : zi.natAbs ≤ Z) : ∀ n, Z + n * B < 2 ^ 53 → (∀ j, j < n → WI (X j) (xi j) ∧ WI (M r j) (mi j) ∧ (a * xi j).natAbs < 2 ^ 53 ∧ (a * xi j * mi j).natAbs ≤ B) →
    WI (mulTo α M X z r n) (zi + sumI (fun j => a * xi j * mi j) n)
  | 0, _, _ => by
    show WI z (zi + 0)
    rw [Int.add_zero]; exact hz
  | n + 1, hB, h => by
    rw [Nat.add_mul] at hB
    have h1 := mulTo_int ha hz hZ n (by omega) (fun j hj => h j (by omega))
    obtain ⟨h2, h3, h4, h5⟩ := h n (by omega)
    have h6 := fmul_int (fmul_int ha h2 h4) h3 (by omega)
    have h7 := sumI_le (f := fun j => a * xi j * mi j) (B := B) n (fun j hj => (h j (by omega)).2.2.2)
    show WI (fadd _ _) (zi + (sumI (fun j => a * xi j * mi j) n + a * xi n * mi n))
    rw [← Int.add_assoc]
    refine fadd_int h1 h6 ?_
    omega
theorem dotTo_int {x y : VecM} {xi yi : Nat → Int} {B : Nat} : ∀ n, n * B < 2 ^ 53 → (∀ j, j < n → WI (x.num j) (xi j) ∧ WI (y.num j) (yi j) ∧ (xi j * yi j).natAbs ≤ B) → WI (dotTo x y n) (sumI (fun j => xi j * yi j) n)
  | 0, _, _ => WI.zero
  | n + 1, hB, h => by
    rw [Nat.add_mul] at hB
    have h1 := dotTo_int n (by omega) (fun j hj => h j (by omega))
    obtain ⟨h2, h3, h4⟩ := h n (by omega)
    have h6 := fmul_int h2 h3 (by omega)
    have h7 := sumI_le (f := fun j => xi j * yi j) (B := B) n (fun j hj => (h j (by omega)).2.2)
    show WI (fadd _ _) (sumI (fun j => xi j * yi j) n + xi n * yi n)
    refine fadd_int h1 h6 ?_
    omega
theorem _root_.Sedge.WI.isF {x : Nat} {a : Int} (h : WI x a) : IsF x x := ⟨h.1, canon_not (fin_notnan h.2.1)⟩
theorem floatOfInt_fint (z : Int) : floatOfInt .f64 z = fint z := rfl
theorem beginF_zero (z : Nat) : beginF 0 z = 0 := by unfold beginF; rw [if_pos (by decide +kernel)]
/-- The numbers of a list, laid into a matrix, and into the one turned about. -/
def FA (r c : Nat) (ls : List Int) (i j : Nat) (LA LB : List Nat) : Prop :=
  LA.length = r * c ∧ LB.length = c * r ∧ ∀ a b, a < r → b < c → (a < i ∨ a = i ∧ b < j) → LA.getD (a + b * r) 0 = fint (ls.getD (a * c + b) 0) ∧ LB.getD (b + a * c) 0 = fint (ls.getD (a * c + b) 0)
theorem FA.zero {r c : Nat} {ls : List Int} : FA r c ls 0 0 (List.replicate (r * c) 0) (List.replicate (c * r) 0) :=
  ⟨by simp, by simp, fun a b _ _ h => by omega⟩
theorem FA.set {r c i j : Nat} {ls : List Int} {LA LB : List Nat} (h : FA r c ls i j LA LB) (hi : i < r) (hj : j < c) :
    FA r c ls i (j + 1) (LA.set (i + j * r) (fint (ls.getD (i * c + j) 0))) (LB.set (j + i * c) (fint (ls.getD (i * c + j) 0))) := by
  obtain ⟨h1, h2, h3⟩ := h
  refine ⟨by rw [List.length_set]; exact h1, by rw [List.length_set]; exact h2, fun a b ha hb hab => ?_⟩
  by_cases e : a = i ∧ b = j
  · obtain ⟨rfl, rfl⟩ := e
    exact ⟨getD_set_self (by rw [h1]; exact place_lt2 hi hj), getD_set_self (by rw [h2]; exact place_lt2 hj hi)⟩
  · have q := h3 a b ha hb (by omega)
    rw [getD_set_ne (fun k => e ?_), getD_set_ne (fun k => e ?_)]
    · exact q
    · have := place_inj hj hb k; omega
    · have := place_inj hi ha k; omega
theorem FA.next {r c i : Nat} {ls : List Int} {LA LB : List Nat} (h : FA r c ls i c LA LB) : FA r c ls (i + 1) 0 LA LB :=
  ⟨h.1, h.2.1, fun a b ha hb hab => h.2.2 a b ha hb (by omega)⟩
/-- Whole numbers as floats. -/
def upF (xs : List Int) (i : Nat) : List Nat := (List.range i).map (fun k => fint (xs.getD k 0))
theorem upF_length (xs : List Int) (i : Nat) : (upF xs i).length = i := by simp [upF]
theorem upF_succ (xs : List Int) (i : Nat) : upF xs (i + 1) = upF xs i ++ [fint (xs.getD i 0)] := by simp [upF, List.range_succ]
theorem upF_getD (xs : List Int) {n i : Nat} (h : i < n) : (upF xs n).getD i 0 = fint (xs.getD i 0) := by
  unfold upF
  rw [List.getD_eq_getElem?_getD, List.getElem?_map, List.getElem?_range h]; rfl
/-- Turned about, and the product of the other one. -/
theorem turns_eq {r c j : Nat} {ls xs : List Int} {LA LB : List Nat} (hr : r ≤ 8) (hj : j < c) (hF : FA r c ls r 0 LA LB) (hl : ∀ k, (ls.getD k 0).natAbs ≤ 128) (hx : ∀ k, (xs.getD k 0).natAbs ≤ 128) :
    feq (fadd 0 (fmul 4611686018427387904 (dotTo (colV ⟨LA, 0, r, c, r⟩ j) ⟨upF xs r, 0, r, 1⟩ r))) (mulTo 4611686018427387904 (MatM.num ⟨LB, 0, c, r, c⟩) (VecM.num ⟨upF xs r, 0, r, 1⟩) 0 j r) = true := by
  have hw : ∀ z : Int, z.natAbs ≤ 128 → WI (fint z) z := fun z hz => fint_int (by omega)
  have nx : ∀ i, i < r → VecM.num ⟨upF xs r, 0, r, 1⟩ i = fint (xs.getD i 0) := fun i hi => by
    unfold VecM.num VecM.place
    simp only [Int.zero_add, Int.mul_one, Int.toNat_natCast]
    exact upF_getD xs hi
  have nA : ∀ i, i < r → (colV ⟨LA, 0, r, c, r⟩ j).num i = fint (ls.getD (i * c + j) 0) := fun i hi => by
    unfold VecM.num VecM.place colV
    simp only [show (0 : Int) < r by omega, if_true]
    rw [show ((0 : Int) + j * r + i * 1).toNat = i + j * r by rw [← Int.natCast_mul]; omega]
    exact (hF.2.2 i j hi hj (.inl hi)).1
  have nB : ∀ i, i < r → MatM.num ⟨LB, 0, c, r, c⟩ j i = fint (ls.getD (i * c + j) 0) := fun i hi => by
    unfold MatM.num MatM.place
    simp only
    rw [show ((0 : Int) + j + i * c).toNat = j + i * c by rw [← Int.natCast_mul]; omega]
    exact (hF.2.2 i j hi hj (.inl hi)).2
  have hp : ∀ a b : Int, a.natAbs ≤ 128 → b.natAbs ≤ 128 → (a * b).natAbs ≤ 16384 := fun a b ha hb => by
    rw [Int.natAbs_mul]; exact Nat.mul_le_mul ha hb
  have p53 : (2:Nat) ^ 53 = 9007199254740992 := by decide
  have h1 : WI (dotTo (colV ⟨LA, 0, r, c, r⟩ j) ⟨upF xs r, 0, r, 1⟩ r) (sumI (fun i => ls.getD (i * c + j) 0 * xs.getD i 0) r) :=
    dotTo_int (B := 16384) r (by omega) (fun i hi => ⟨by rw [nA i hi]; exact hw _ (hl _), by rw [nx i hi]; exact hw _ (hx _), hp _ _ (hl _) (hx _)⟩)
  have b1 := sumI_le (f := fun i => ls.getD (i * c + j) 0 * xs.getD i 0) (B := 16384) r (fun i _ => hp _ _ (hl _) (hx _))
  have h2 := fmul_int WI.two h1 (by omega)
  have h3 := fadd_int WI.zero h2 (by omega)
  have h4 : WI (mulTo 4611686018427387904 (MatM.num ⟨LB, 0, c, r, c⟩) (VecM.num ⟨upF xs r, 0, r, 1⟩) 0 j r) (0 + sumI (fun i => 2 * xs.getD i 0 * ls.getD (i * c + j) 0) r) :=
    mulTo_int (B := 32768) (Z := 0) WI.two WI.zero (by decide) r (by omega) (fun i hi => ⟨by rw [nx i hi]; exact hw _ (hx _), by rw [nB i hi]; exact hw _ (hl _), by have := hx i; omega, by
      have := hp (xs.getD i 0) (ls.getD (i * c + j) 0) (hx _) (hl _)
      rw [Int.mul_assoc, Int.natAbs_mul]; show 2 * _ ≤ _; omega⟩)
  rw [h3.feq h4, decide_eq_true]
  rw [← sumI_mul]
  congr 1
  refine sumI_congr r fun i _ => ?_
  rw [Int.mul_assoc, Int.mul_comm (xs.getD i 0)]
end Go.Proofs.Ytcmggfpcbijcjaa
end
