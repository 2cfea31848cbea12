/-
  Texts laid one behind the other (a claim has at most 60 files): Ger1, Rest1, Rest2, Par, Par2, OwnI, Dig, Dint.
-/
import Derived.Laws.EntriesVeiled
import Derived.Laws.Tables
import Derived.Maps.AppendAt
import Derived.Test.YtcmggfpcbijcjaaQResidBackward1
import Derived.Test.YtcmggfpcbijcjaaQResidBackward2
import Derived.Test.YtcmggfpcbijcjaaQResidBackward3
import Derived.Test.YtcmggfpcbijcjaaQResidBackward4
import Derived.Test.YtcmggfpcbijcjaaQResidBackward5
section
/-
  Contracts: view.Col, ger.row, ger.Ger's closure, ger.each.
-/
set_option linter.unusedSimpArgs false
set_option linter.unusedVariables false
open Go Go.RowKit Sedge
namespace Go.Proofs.Ytcmggfpcbijcjaa
def colV (m : MatM) (j : Nat) : VecM := ⟨m.ws, if 0 < m.rows then m.off + j * m.ld else m.off, m.rows, 1⟩
set_option maxRecDepth 100000 in
set_option maxHeartbeats 1000000 in
/-- view.Col. -/
theorem col_any (x : MatM) (D : Value) (j : Nat) (w : World) (hD : FS w D x.ws) (hx : x.good = true) (hwf : x.wf) (hj : (j : Int) < x.cols) :
   Calls Try.prog 149 #[.agg #[D, .int .i64 x.off, .int .i64 x.rows, .int .i64 x.cols, .int .i64 x.ld], .int .i64 j] w
     (fun e w' => e = .returned (.agg #[D, .int .i64 (colV x j).off, .int .i64 x.rows, .int .i64 1]) ∧ ∃ o n, w' = ext w o n) := by
  have hn := MatM.good_n hx
  obtain ⟨aD, capD, rfl⟩ := hD.shape
  have k1 : (!x.good) = false := by simp [hx]
  have hlen := hD.len
  have Hw := hid hwf
  have k3 : decide ((j : Int) < 0) = false := by simp
  have k4 : decide (x.cols ≤ (j : Int)) = false := by simp; omega
  by_cases hc : 0 < x.rows
  · have hp := MatM.good_place hx (i := 0) (j := j) (by simpa using hc) hj
    simp only [Int.natCast_zero, Int.add_zero] at hp
    have e : (colV x j).off = x.off + j * x.ld := by simp [colV, hc]
    have r1 : IntKind.i64.wrap ((j : Int) * x.ld) = j * x.ld := IntWalk.i64_in _ (by omega)
    have r2 : IntKind.i64.wrap (x.off + j * x.ld) = x.off + j * x.ld := IntWalk.i64_in _ (by omega)
    have Hx := hid hx
    have d5 : decide (0 < x.rows) = true := by simpa using hc
    rw [e]
    clear hx hwf e
    go_enter Try.func149, Try.ntmps149
    refine seq_stop ?_
    go_wp2
    refine stop_go (fun W hW => ?_)
    have s1 : w.heap.size < W.heap.size := by rw [hW]; simp only [World.size_alloc]; omega
    have b1 : ∀ i, W.cell? ⟨w.heap.size, i, none⟩ = (#[.slice aD x.ws.length capD, .int .i64 x.off, .int .i64 x.rows, .int .i64 x.cols, .int .i64 x.ld] : Array Value)[i]? := by intro i; rw [hW]; go_simp
    have f1 : ∀ i, W.frozen? ⟨w.heap.size, i, none⟩ = false := by intro i; rw [hW]; go_simp
    have s2 : w.heap.size + 1 < W.heap.size := by rw [hW]; simp only [World.size_alloc]; omega
    have b2 : ∀ i, W.cell? ⟨w.heap.size + 1, i, none⟩ = (#[.slice none 0 0, .int .i64 0, .int .i64 0, .int .i64 0] : Array Value)[i]? := by intro i; rw [hW]; go_simp
    have f2 : ∀ i, W.frozen? ⟨w.heap.size + 1, i, none⟩ = false := by intro i; rw [hW]; go_simp
    have g0 : Grew w W := by rw [hW]; exact ((Grew.refl _).alloc _).alloc _
    clear hW
    have hDW : FS W (.slice aD x.ws.length capD) x.ws := hD.grew g0
    go_wp2_with (first | (go_at_call 130; ((with_reducible refine (good_any x _ _ ?_ Hw.out).mono ?_); (focus (first | (with_reducible assumption) | (with_reducible refine FS.ext ?_ _ _; with_reducible assumption) | (with_reducible refine IS.ext ?_ _ _; with_reducible assumption) | (refine hDu _ ?_; with_reducible assumption) | (refine hOu _ ?_; with_reducible assumption) | (refine hDa _ ?_; with_reducible assumption) | (refine hDb _ ?_; with_reducible assumption) | (refine hDc _ ?_; with_reducible assumption) | (refine hDd _ ?_; with_reducible assumption) | (refine FW.fs ?_ (by omega) _; with_reducible assumption) | (refine WS.fs ?_; with_reducible assumption) | (refine FW.fs ?_ (by omega) _; assumption) | omega | assumption)); rintro e w1 ⟨rfl, o1, n1, rfl⟩)))
    refine bodyPost_ret (v := .agg #[.slice aD x.ws.length capD, .int .i64 (x.off + j * x.ld), .int .i64 x.rows, .int .i64 1]) (by simp [results, Try.results149, go_sem, *]) rfl ?_
    exact ⟨rfl, by (show Grew _ _; repeat (first | (with_reducible exact Grew.refl _) | (with_reducible assumption) | (with_reducible refine Grew.ext ?_ _ _) | (with_reducible refine Grew.alloc ?_ _) | ((with_reducible refine Grew.setCell ?_ ?_ _); rotate_left; (focus (dsimp only; first | omega | (simp only [size_ext, World.size_alloc, Array.size_append]; omega)))) | (with_reducible refine Grew.drewN ?_ _) | (with_reducible refine Grew.drew ?_)))⟩
  · have e : (colV x j).off = x.off := by simp [colV, hc]
    have Hx := hid hx
    have d5 : decide (0 < x.rows) = false := by simpa using hc
    rw [e]
    clear hx hwf e
    go_enter Try.func149, Try.ntmps149
    refine seq_stop ?_
    go_wp2
    refine stop_go (fun W hW => ?_)
    have s1 : w.heap.size < W.heap.size := by rw [hW]; simp only [World.size_alloc]; omega
    have b1 : ∀ i, W.cell? ⟨w.heap.size, i, none⟩ = (#[.slice aD x.ws.length capD, .int .i64 x.off, .int .i64 x.rows, .int .i64 x.cols, .int .i64 x.ld] : Array Value)[i]? := by intro i; rw [hW]; go_simp
    have f1 : ∀ i, W.frozen? ⟨w.heap.size, i, none⟩ = false := by intro i; rw [hW]; go_simp
    have s2 : w.heap.size + 1 < W.heap.size := by rw [hW]; simp only [World.size_alloc]; omega
    have b2 : ∀ i, W.cell? ⟨w.heap.size + 1, i, none⟩ = (#[.slice none 0 0, .int .i64 0, .int .i64 0, .int .i64 0] : Array Value)[i]? := by intro i; rw [hW]; go_simp
    have f2 : ∀ i, W.frozen? ⟨w.heap.size + 1, i, none⟩ = false := by intro i; rw [hW]; go_simp
    have g0 : Grew w W := by rw [hW]; exact ((Grew.refl _).alloc _).alloc _
    clear hW
    have hDW : FS W (.slice aD x.ws.length capD) x.ws := hD.grew g0
    go_wp2_with (first | (go_at_call 130; ((with_reducible refine (good_any x _ _ ?_ Hw.out).mono ?_); (focus (first | (with_reducible assumption) | (with_reducible refine FS.ext ?_ _ _; with_reducible assumption) | (with_reducible refine IS.ext ?_ _ _; with_reducible assumption) | (refine hDu _ ?_; with_reducible assumption) | (refine hOu _ ?_; with_reducible assumption) | (refine hDa _ ?_; with_reducible assumption) | (refine hDb _ ?_; with_reducible assumption) | (refine hDc _ ?_; with_reducible assumption) | (refine hDd _ ?_; with_reducible assumption) | (refine FW.fs ?_ (by omega) _; with_reducible assumption) | (refine WS.fs ?_; with_reducible assumption) | (refine FW.fs ?_ (by omega) _; assumption) | omega | assumption)); rintro e w1 ⟨rfl, o1, n1, rfl⟩)))
    refine bodyPost_ret (v := .agg #[.slice aD x.ws.length capD, .int .i64 x.off, .int .i64 x.rows, .int .i64 1]) (by simp [results, Try.results149, go_sem, *]) rfl ?_
    exact ⟨rfl, by (show Grew _ _; repeat (first | (with_reducible exact Grew.refl _) | (with_reducible assumption) | (with_reducible refine Grew.ext ?_ _ _) | (with_reducible refine Grew.alloc ?_ _) | ((with_reducible refine Grew.setCell ?_ ?_ _); rotate_left; (focus (dsimp only; first | omega | (simp only [size_ext, World.size_alloc, Array.size_append]; omega)))) | (with_reducible refine Grew.drewN ?_ _) | (with_reducible refine Grew.drew ?_)))⟩
set_option maxRecDepth 100000 in
set_option maxHeartbeats 1000000 in
/-- ger.row. -/
theorem grow_any (x : VecM) (a : Option Addr) (l c : Nat) (w : World) :
   Calls Try.prog 137 #[.agg #[.slice a l c, .int .i64 x.off, .int .i64 x.n, .int .i64 x.inc]] w (fun e w' => e = .returned (.agg #[.slice a l c, .int .i64 x.off, .int .i64 1, .int .i64 x.n, .int .i64 x.inc]) ∧ ∃ o n, w' = ext w o n) := by
  go_enter Try.func137, Try.ntmps137
  refine seq_stop ?_
  go_wp2
  refine stop_go (fun W hW => ?_)
  have s1 : w.heap.size < W.heap.size := by rw [hW]; simp only [World.size_alloc]; omega
  have b1 : ∀ i, W.cell? ⟨w.heap.size, i, none⟩ = (#[.slice a l c, .int .i64 x.off, .int .i64 x.n, .int .i64 x.inc] : Array Value)[i]? := by intro i; rw [hW]; go_simp
  have f1 : ∀ i, W.frozen? ⟨w.heap.size, i, none⟩ = false := by intro i; rw [hW]; go_simp
  have s2 : w.heap.size + 1 < W.heap.size := by rw [hW]; simp only [World.size_alloc]; omega
  have b2 : ∀ i, W.cell? ⟨w.heap.size + 1, i, none⟩ = (#[.slice none 0 0, .int .i64 0, .int .i64 0, .int .i64 0, .int .i64 0] : Array Value)[i]? := by intro i; rw [hW]; go_simp
  have f2 : ∀ i, W.frozen? ⟨w.heap.size + 1, i, none⟩ = false := by intro i; rw [hW]; go_simp
  have g0 : Grew w W := by rw [hW]; exact ((Grew.refl _).alloc _).alloc _
  clear hW
  go_wp2
  refine bodyPost_ret (v := .agg #[.slice a l c, .int .i64 x.off, .int .i64 1, .int .i64 x.n, .int .i64 x.inc]) (by simp [results, Try.results137, go_sem, *]) rfl ?_
  exact ⟨rfl, by (show Grew _ _; repeat (first | (with_reducible exact Grew.refl _) | (with_reducible assumption) | (with_reducible refine Grew.ext ?_ _ _) | (with_reducible refine Grew.alloc ?_ _) | ((with_reducible refine Grew.setCell ?_ ?_ _); rotate_left; (focus (dsimp only; first | omega | (simp only [size_ext, World.size_alloc, Array.size_append]; omega)))) | (with_reducible refine Grew.drewN ?_ _) | (with_reducible refine Grew.drew ?_)))⟩
theorem hmf (fn : Fn) (first cap : Array Value) (w : World) : (Instr.makeFunc fn first cap).run Try.prog w = .ok (.func fn first cap) w := rfl
/-- What a closure of ger.each does at a place. -/
def DoesAt (w : World) (m : MatM) (g : Nat) (q1 q2 q3 : Value) (F : Nat → Nat → Nat → Nat) : Prop :=
  ∀ w' L s, But w [g] w' → FW w' g L → Hold m.place m.rows.toNat m.cols.toNat m.ws L s → ∀ i j : Nat, (i : Int) < m.rows → (j : Int) < m.cols →
    Calls Try.prog 139 #[.int .i64 i, .int .i64 j, .pointer (some ⟨g, (m.off + j * m.ld + i).toNat, none⟩), q1, q2, q3] w' (fun e w2 => e = .returned (.tuple #[]) ∧ Wrote w' w2 g (L.set (m.place i j) (F i j (s i j))))
def stepF (F : Nat → Nat → Nat → Nat) (s : Nat → Nat → Nat) (j i : Nat) (r c : Nat) : Nat := if c < j ∨ (c = j ∧ r < i) then F r c (s r c) else s r c
set_option maxRecDepth 100000 in
set_option maxHeartbeats 2000000 in
/-- ger.each. -/
theorem each_any (m : MatM) (g ca : Nat) (q1 q2 q3 : Value) (F : Nat → Nat → Nat → Nat) (w : World) (hF : FW w g m.ws) (hm : m.good = true) (hwm : m.wf) (hlm : m.ws.length ≤ 1000000) (hr : m.rows ≤ 1000) (hc : m.cols ≤ 1000)
    (hdo : DoesAt w m g q1 q2 q3 F) :
   Calls Try.prog 138 #[.agg #[.slice (some ⟨g, 0, none⟩) m.ws.length ca, .int .i64 m.off, .int .i64 m.rows, .int .i64 m.cols, .int .i64 m.ld], .func (.func 139) #[] #[q1, q2, q3]] w
     (fun e w' => e = .returned (.tuple #[]) ∧ But w [g] w' ∧ ∃ L, FW w' g L ∧ Hold m.place m.rows.toNat m.cols.toNat m.ws L (fun i j => F i j (m.num i j))) := by
  have hn := MatM.good_n hm
  have hltg := hF.lt
  have hpl := MatM.places hm
  have Hm := hid hm
  have hcl : ∀ w', FS w' (.slice (some ⟨g, 0, none⟩) m.ws.length ca) m.ws → True := fun _ _ => trivial
  have hcolA : ∀ (j : Nat) (L : List Nat) w', L.length = m.ws.length → FW w' g L → (j : Int) < m.cols → 0 < m.rows → Calls Try.prog 149 #[.agg #[.slice (some ⟨g, 0, none⟩) m.ws.length ca, .int .i64 m.off, .int .i64 m.rows, .int .i64 m.cols, .int .i64 m.ld], .int .i64 j] w'
      (fun e w2 => e = .returned (.agg #[.slice (some ⟨g, 0, none⟩) m.ws.length ca, .int .i64 (m.off + j * m.ld), .int .i64 m.rows, .int .i64 1]) ∧ ∃ o n, w2 = ext w' o n) := fun j L w' hl h hj h0 => by
    have h1 := h.fs (by omega) ca
    rw [hl] at h1
    have := col_any (withL m L) (.slice (some ⟨g, 0, none⟩) m.ws.length ca) j w' h1 (by rw [withL_good hl]; exact hm) hwm hj
    have e : (colV (withL m L) j).off = m.off + j * m.ld := by unfold colV withL; simp [h0]
    rw [e] at this
    exact this
  by_cases h0 : m.rows = 0
  · have d0 : (m.rows == 0) = true := by simpa using h0
    have hh : Hold m.place m.rows.toNat m.cols.toNat m.ws m.ws (fun i j => F i j (m.num i j)) := ⟨rfl, fun i j hi hj => by omega, fun _ _ => rfl⟩
    clear hdo hm hwm
    go_enter Try.func138, Try.ntmps138
    refine seq_stop ?_
    go_wp2
    refine stop_go (fun W hW => ?_)
    have s1 : w.heap.size < W.heap.size := by rw [hW]; simp only [World.size_alloc]; omega
    have b1 : ∀ i, W.cell? ⟨w.heap.size, i, none⟩ = (#[.slice (some ⟨g, 0, none⟩) m.ws.length ca, .int .i64 m.off, .int .i64 m.rows, .int .i64 m.cols, .int .i64 m.ld] : Array Value)[i]? := by intro i; rw [hW]; go_simp
    have g0 : Grew w W := by rw [hW]; exact (Grew.refl _).alloc _
    clear hW
    go_wp2
    refine bodyPost_ret (v := .tuple #[]) (by simp [results, Try.results138, go_sem, *]) rfl ?_
    exact ⟨rfl, (But.refl w [g]).grew (by (show Grew _ _; repeat (first | (with_reducible exact Grew.refl _) | (with_reducible assumption) | (with_reducible refine Grew.ext ?_ _ _) | (with_reducible refine Grew.alloc ?_ _) | ((with_reducible refine Grew.setCell ?_ ?_ _); rotate_left; (focus (dsimp only; first | omega | (simp only [size_ext, World.size_alloc, Array.size_append]; omega)))) | (with_reducible refine Grew.drewN ?_ _) | (with_reducible refine Grew.drew ?_)))), m.ws, hF.grew (by (show Grew _ _; repeat (first | (with_reducible exact Grew.refl _) | (with_reducible assumption) | (with_reducible refine Grew.ext ?_ _ _) | (with_reducible refine Grew.alloc ?_ _) | ((with_reducible refine Grew.setCell ?_ ?_ _); rotate_left; (focus (dsimp only; first | omega | (simp only [size_ext, World.size_alloc, Array.size_append]; omega)))) | (with_reducible refine Grew.drewN ?_ _) | (with_reducible refine Grew.drew ?_)))), hh⟩
  · have d0 : (m.rows == 0) = false := by simpa using h0
    have h1 : 0 < m.rows := by omega
    clear hm hwm
    go_enter Try.func138, Try.ntmps138
    refine seq_stop ?_
    go_wp2
    refine stop_go (fun W hW => ?_)
    have s1 : w.heap.size < W.heap.size := by rw [hW]; simp only [World.size_alloc]; omega
    have b1 : ∀ i, W.cell? ⟨w.heap.size, i, none⟩ = (#[.slice (some ⟨g, 0, none⟩) m.ws.length ca, .int .i64 m.off, .int .i64 m.rows, .int .i64 m.cols, .int .i64 m.ld] : Array Value)[i]? := by intro i; rw [hW]; go_simp
    have g0 : Grew w W := by rw [hW]; exact (Grew.refl _).alloc _
    clear hW
    have zW := g0.below.size
    have bw : ∀ w', But W [g] w' → But w [g] w' := fun w' h => ((But.refl w [g]).grew g0).trans h (fun _ hb => .inl hb)
    have hFW : FW W g m.ws := hF.grew g0
    have cU : ∀ w', But W [g] w' → ∀ i, w'.cell? ⟨w.heap.size, i, none⟩ = (#[.slice (some ⟨g, 0, none⟩) m.ws.length ca, .int .i64 m.off, .int .i64 m.rows, .int .i64 m.cols, .int .i64 m.ld] : Array Value)[i]? := fun w' h i => (h.cell s1 (by simp; omega)).trans (b1 i)
    go_wp2
    go_loopw [12] (fun c wr => ∃ (j : Nat) (L : List Nat), (j : Int) ≤ m.cols ∧ c = .int .i64 j ∧ But W [g] wr ∧ FW wr g L ∧ Hold m.place m.rows.toNat m.cols.toNat m.ws L (stepF F m.num j 0)) (fun c _ => (m.cols - intOf c).toNat)
    case atStart => exact ⟨0, m.ws, hn.2.1, rfl, But.refl _ _, hFW, MatM.hold.congr fun i j _ _ => by simp [stepF]⟩
    case round =>
      obtain ⟨j, L, hj, rfl, hB, hL, hH⟩ := hrel
      have tT := cU _ hB
      have zB := hB.size
      have kT : w.heap.size < wr.heap.size := by omega
      by_cases hlt : (j : Int) < m.cols
      · have hlt' := hid hlt
        have hcj := fun w' (h : FW w' g L) => hcolA j L w' hH.len h hlt h1
        go_wp2_with (first | (go_at_call 149; ((with_reducible refine (hcj _ hL).mono ?_); rintro e w1 ⟨rfl, oc, nc, rfl⟩)))
        refine name_any (fun V hV => ?_)
        have gV : Grew wr V := by rw [← hV]; (show Grew _ _; repeat (first | (with_reducible exact Grew.refl _) | (with_reducible assumption) | (with_reducible refine Grew.ext ?_ _ _) | (with_reducible refine Grew.alloc ?_ _) | ((with_reducible refine Grew.setCell ?_ ?_ _); rotate_left; (focus (dsimp only; first | omega | (simp only [size_ext, World.size_alloc, Array.size_append]; omega)))) | (with_reducible refine Grew.drewN ?_ _) | (with_reducible refine Grew.drew ?_)))
        have BV : But W [g] V := hB.grew gV
        have cT : ∀ i, V.cell? ⟨wr.heap.size + oc.size, i, none⟩ = (#[.slice (some ⟨g, 0, none⟩) m.ws.length ca, .int .i64 (m.off + j * m.ld), .int .i64 m.rows, .int .i64 1] : Array Value)[i]? := by subst hV; intro i; go_simp
        have kV : wr.heap.size + oc.size < V.heap.size := by rw [← hV]; simp only [World.size_alloc, size_ext]; omega
        obtain ⟨T, hT⟩ : ∃ T, wr.heap.size + oc.size = T := ⟨_, rfl⟩
        have zT : wr.heap.size ≤ T := by omega
        rw [hT] at cT kV
        simp only [hT]
        have ltg2 := hL.lt
        have cV : ∀ w', But V [g] w' → ∀ i, w'.cell? ⟨T, i, none⟩ = (#[.slice (some ⟨g, 0, none⟩) m.ws.length ca, .int .i64 (m.off + j * m.ld), .int .i64 m.rows, .int .i64 1] : Array Value)[i]? := fun w' h i => (h.cell kV (by simp; omega)).trans (cT i)
        have bV : ∀ w', But V [g] w' → But W [g] w' := fun w' h => BV.trans h (fun _ hb => .inl hb)
        have hLV : FW V g L := hL.grew gV
        clear hV hT cT
        go_wp2
        go_loopw [20] (fun c wr => ∃ (i : Nat) (L : List Nat), (i : Int) ≤ m.rows ∧ c = .int .i64 i ∧ But V [g] wr ∧ FW wr g L ∧ Hold m.place m.rows.toNat m.cols.toNat m.ws L (stepF F m.num j i)) (fun c _ => (m.rows - intOf c).toNat)
        case atStart => exact ⟨0, L, by omega, rfl, But.refl _ _, hLV, hH⟩
        case round =>
          obtain ⟨i, L2, hi, rfl, hB2, hL2, hH2⟩ := hrel
          have tV := cV _ hB2
          have zB2 := hB2.size
          have kT2 : T < wr.heap.size := by omega
          by_cases hli : (i : Int) < m.rows
          · have hp := MatM.good_place Hm.out hli hlt'.out
            have r1 : IntKind.i64.wrap (m.off + j * m.ld + i) = m.off + j * m.ld + i := IntWalk.i64_in _ (by omega)
            have e1 : 0 ≤ m.off + j * m.ld + i := by omega
            have e2 : m.off + j * m.ld + i < m.ws.length := by omega
            have hcall := hdo wr L2 _ (bw _ (bV _ hB2)) hL2 hH2 i j hli hlt'.out
            go_wp2_with (first | (go_at_call 139; ((with_reducible refine (hcall).mono ?_); rintro e w1 ⟨rfl, hw1⟩)))
            go_roundw
            case rel =>
              refine ⟨i + 1, _, by omega, by go_num, hB2.wrote hw1 (.inl (by simp)), hw1.fw hL2, (hH2.set hpl (by omega) (by have := hlt'.out; omega)).congr fun r c hr hc => ?_⟩
              unfold stepF
              by_cases hrc : r = i ∧ c = j
              · obtain ⟨rfl, rfl⟩ := hrc
                simp
              · rw [if_neg hrc]
                by_cases h2 : c < j ∨ (c = j ∧ r < i)
                · rw [if_pos h2, if_pos (by omega)]
                · rw [if_neg h2, if_neg (by omega)]
            case measure => simp [intOf]; omega
          · have e : i = m.rows.toNat := by omega
            go_wp2
            go_roundw
            case rel =>
              refine ⟨j + 1, L2, by have := hlt'.out; omega, by go_num, bV _ hB2, hL2, hH2.congr fun r c hr hc => ?_⟩
              unfold stepF
              by_cases h2 : c < j ∨ (c = j ∧ r < i)
              · rw [if_pos h2, if_pos (by omega)]
              · rw [if_neg h2, if_neg (by omega)]
            case measure => (have := hlt'.out; simp [intOf]; omega)
      · go_wp2
        go_end0
        refine ⟨rfl, bw _ hB, L, hL, hH.congr fun r c hr hc => ?_⟩
        unfold stepF
        rw [if_pos (by omega)]
end Go.Proofs.Ytcmggfpcbijcjaa
end
section
/-
  Contracts: resid.Rest's closures; the rows of a fold.
-/
set_option linter.unusedSimpArgs false
set_option linter.unusedVariables false
open Go Go.RowKit Sedge
namespace Go.Proofs.Ytcmggfpcbijcjaa
set_option maxRecDepth 100000 in
theorem rc1_any (i T : Nat) (Y : Value) (L : List Nat) (w : World) (hT : ∀ i, w.cell? ⟨T, i, none⟩ = (#[Y] : Array Value)[i]?) (hY : FS w Y L) (hi : i < L.length) :
   Calls Try.prog 167 #[.int .i64 i, .pointer (some ⟨T, 0, none⟩)] w (fun e w' => ∃ r, e = .returned (.float .f64 r) ∧ IsF r (L.getD i 0) ∧ ∃ o n, w' = ext w o n) := by
  obtain ⟨blk, o, cap, rfl, hb, hc⟩ := hY.open (by omega)
  obtain ⟨b, hb0, hf⟩ := hc i hi
  clear hc
  go_enter Try.func167, Try.ntmps167
  go_wp2
  go_ret
  exact ⟨b, rfl, hf, #[], w.drawn, ext_zero.symm⟩
set_option maxRecDepth 100000 in
theorem rc3_any (i T : Nat) (Y : Value) (L : List Nat) (w : World) (hT : ∀ i, w.cell? ⟨T, i, none⟩ = (#[Y] : Array Value)[i]?) (hY : FS w Y L) (hi : i < L.length) :
   Calls Try.prog 169 #[.int .i64 i, .pointer (some ⟨T, 0, none⟩)] w (fun e w' => ∃ r, e = .returned (.float .f64 r) ∧ IsF r (fabs (L.getD i 0)) ∧ ∃ o n, w' = ext w o n) := by
  obtain ⟨blk, o, cap, rfl, hb, hc⟩ := hY.open (by omega)
  obtain ⟨b, hb0, hf⟩ := hc i hi
  clear hc
  go_enter Try.func169, Try.ntmps169
  go_wp2_with (first | (go_at_call 164; ((with_reducible refine (mabs_any b _ _ hf).mono ?_); rintro e w1 ⟨ra, rfl, hra, rfl⟩)))
  go_ret
  exact ⟨ra, rfl, hra, #[], w.drawn, ext_zero.symm⟩
set_option maxRecDepth 100000 in
theorem rc2_any (s S a A j T : Nat) (X : Value) (L : List Nat) (w : World) (hs : IsF s S) (ha : IsF a A) (hT : ∀ i, w.cell? ⟨T, i, none⟩ = (#[X] : Array Value)[i]?) (hX : FS w X L) (hj : j < L.length) :
   Calls Try.prog 168 #[.float .f64 s, .float .f64 a, .int .i64 j, .pointer (some ⟨T, 0, none⟩)] w (fun e w' => ∃ r, e = .returned (.float .f64 r) ∧ IsF r (fsub S (fmul A (L.getD j 0))) ∧ ∃ o n, w' = ext w o n) := by
  obtain ⟨blk, o, cap, rfl, hb, hc⟩ := hX.open (by omega)
  obtain ⟨b, hb0, hf⟩ := hc j hj
  clear hc
  go_enter Try.func168, Try.ntmps168
  go_wp2_with ((with_reducible refine upon_id ?_); refine upon_fop rfl (by assumption) (by assumption) ?_; intro rr nn hr)
  go_ret
  exact ⟨_, rfl, hr, _, _, drewN_ext0 _⟩
set_option maxRecDepth 100000 in
theorem rc4_any (s S a A j T : Nat) (X : Value) (L : List Nat) (w : World) (hs : IsF s S) (ha : IsF a A) (hT : ∀ i, w.cell? ⟨T, i, none⟩ = (#[X] : Array Value)[i]?) (kT : T < w.heap.size) (hX : FS w X L) (hj : j < L.length) :
   Calls Try.prog 170 #[.float .f64 s, .float .f64 a, .int .i64 j, .pointer (some ⟨T, 0, none⟩)] w (fun e w' => ∃ r, e = .returned (.float .f64 r) ∧ IsF r (fadd S (fmul (fabs A) (fabs (L.getD j 0)))) ∧ ∃ o n, w' = ext w o n) := by
  obtain ⟨blk, o, cap, rfl, hb, hc⟩ := hX.open (by omega)
  obtain ⟨b, hb0, hf⟩ := hc j hj
  clear hc
  go_enter Try.func170, Try.ntmps170
  go_wp2
  refine wp_region_R (Grew w) [] [(0,0), (0,1), (0,3), (0,4), (0,5), (0,6), (1,2), (1,7), (1,8), (1,9), (0,10)] (by kernel_rfl) (by kernel_rfl) (fun _ _ _ _ h _ => h) (by first | exact ⟨_, _, ext_drew⟩ | exact ⟨_, _, drew_ext0⟩ | (show Grew _ _; repeat (first | (with_reducible exact Grew.refl _) | (with_reducible assumption) | (with_reducible refine Grew.ext ?_ _ _) | (with_reducible refine Grew.alloc ?_ _) | ((with_reducible refine Grew.setCell ?_ ?_ _); rotate_left; (focus (dsimp only; first | omega | (simp only [size_ext, World.size_alloc, Array.size_append]; omega)))) | (with_reducible refine Grew.drewN ?_ _) | (with_reducible refine Grew.drew ?_)))) ?_
  go_wp2_with (first | ((with_reducible refine wpR_id ?_); first | (refine wpR_take (v := ?_) rfl rfl ?_ ?_; rotate_left; (focus (rintro w' ⟨o', n', rfl⟩; go_simp; try with_reducible rfl)); simp only [Act.put, List.setIfInBounds_toArray, List.set_cons_zero, List.set_cons_succ]) | (refine wpR_pure (v := ?_) rfl rfl ?_ ?_; rotate_left; (focus (intro w'; go_simp; try with_reducible rfl)); simp only [Act.put, List.setIfInBounds_toArray, List.set_cons_zero, List.set_cons_succ]) | (refine wpR_takeG (v := ?_) rfl rfl rfl rfl rfl ?_ ?_; rotate_left; (focus (rintro w' ⟨o', n', rfl⟩; go_simp; try with_reducible rfl)); simp only [Act.put, List.setIfInBounds_toArray, List.set_cons_zero, List.set_cons_succ]) | (refine wpR_skip rfl rfl rfl rfl rfl rfl ?_; simp only [Act.put, List.setIfInBounds_toArray, List.set_cons_zero, List.set_cons_succ]) | (refine wpR_skipU rfl rfl rfl rfl rfl ?_; simp only [Act.put, List.setIfInBounds_toArray, List.set_cons_zero, List.set_cons_succ]) | (refine wpR_do rfl rfl (fun K hK => ?_)) | (refine wpR_doG rfl rfl rfl rfl rfl (fun K hK => ?_)) | (refine wpR_last rfl rfl (fun K hK => ?_)) | (refine wpR_nil ?_)) | ((with_reducible refine wpR_go ?_ ?_); (focus (show Grew _ _; repeat (first | (with_reducible exact Grew.refl _) | (with_reducible assumption) | (with_reducible refine Grew.ext ?_ _ _) | (with_reducible refine Grew.alloc ?_ _) | ((with_reducible refine Grew.setCell ?_ ?_ _); rotate_left; (focus (dsimp only; first | omega | (simp only [size_ext, World.size_alloc, Array.size_append]; omega)))) | (with_reducible refine Grew.drewN ?_ _) | (with_reducible refine Grew.drew ?_))))) | ((with_reducible refine upon_id ?_); refine upon_fop rfl (by assumption) (by assumption) ?_; intro rr nn hr) | (go_at_call 164; ((with_reducible refine (mabs_any a _ _ ha).mono ?_); rintro e w1 ⟨ra, rfl, hra, rfl⟩)) | (go_at_call 164; ((with_reducible refine (mabs_any b _ _ hf).mono ?_); rintro e w1 ⟨rb, rfl, hrb, rfl⟩)))
  go_ret
  exact ⟨_, rfl, hr, by (show Grew _ _; repeat (first | (with_reducible exact Grew.refl _) | (with_reducible assumption) | (with_reducible refine Grew.ext ?_ _ _) | (with_reducible refine Grew.alloc ?_ _) | ((with_reducible refine Grew.setCell ?_ ?_ _); rotate_left; (focus (dsimp only; first | omega | (simp only [size_ext, World.size_alloc, Array.size_append]; omega)))) | (with_reducible refine Grew.drewN ?_ _) | (with_reducible refine Grew.drew ?_)))⟩
theorem ownF_mono {e : TypeId} {w : World} {B B' : Nat} {v : Value} {xs : List Nat} (h : OwnF e w B v xs) (hB : B' ≤ B) : OwnF e w B' v xs := by
  obtain ⟨bs, ⟨h0, h1⟩, h2, h3⟩ := h
  refine ⟨bs, ⟨h0, ?_⟩, h2, h3⟩
  rcases h1 with h1 | ⟨gg, cap, cur, hv, hB1, hh, r⟩
  · exact .inl h1
  · exact .inr ⟨gg, cap, cur, hv, Nat.le_trans hB hB1, hh, r⟩
def accR (F : Nat → Nat) (G : Nat → Nat → Nat → Nat) (A : Nat → Nat → Nat) (i : Nat) : Nat → Nat
  | 0 => F i
  | j + 1 => G (accR F G A i j) (A i j) j
def rowsTo (F : Nat → Nat) (G : Nat → Nat → Nat → Nat) (A : Nat → Nat → Nat) (C i : Nat) : List Nat := (List.range i).map fun r => accR F G A r C
theorem rowsTo_succ (F : Nat → Nat) (G : Nat → Nat → Nat → Nat) (A : Nat → Nat → Nat) (C i : Nat) : rowsTo F G A C (i + 1) = rowsTo F G A C i ++ [accR F G A i C] := by unfold rowsTo; rw [List.range_succ, List.map_append]; rfl
theorem rowsTo_length (F : Nat → Nat) (G : Nat → Nat → Nat → Nat) (A : Nat → Nat → Nat) (C i : Nat) : (rowsTo F G A C i).length = i := by simp [rowsTo]
set_option maxRecDepth 100000 in
set_option maxHeartbeats 2000000 in
/-- resid's fold.rows. -/
theorem rowsA_any (F : Nat → Nat) (G : Nat → Nat → Nat → Nat) (m : MatM) (D : Value) (P1 P2 : Value) (w : World) (hD : FS w D m.ws) (hm : m.good = true) (hwm : m.wf) (hl : m.ws.length ≤ 1000000) (hrr : m.rows ≤ 1000) (hcc : m.cols ≤ 1000)
    (h1 : ∀ (i : Nat) w', (i : Int) < m.rows → Grew w w' → Calls Try.prog 167 #[.int .i64 i, P1] w' (fun e w2 => ∃ r, e = .returned (.float .f64 r) ∧ IsF r (F i) ∧ ∃ o n, w2 = ext w' o n))
    (h2 : ∀ (s S a A j : Nat) w', IsF s S → IsF a A → (j : Int) < m.cols → Grew w w' → Calls Try.prog 168 #[.float .f64 s, .float .f64 a, .int .i64 j, P2] w' (fun e w2 => ∃ r, e = .returned (.float .f64 r) ∧ IsF r (G S A j) ∧ ∃ o n, w2 = ext w' o n)) :
   Calls Try.prog 171 #[.agg #[.func (.func 167) #[] #[P1], .func (.func 168) #[] #[P2]], .agg #[D, .int .i64 m.off, .int .i64 m.rows, .int .i64 m.cols, .int .i64 m.ld]] w
     (fun e w' => ∃ v, e = .returned v ∧ OwnF 22 w' w.heap.size v (rowsTo F G m.num m.cols.toNat m.rows.toNat) ∧ ∃ o n, w' = ext w o n) := by
  have hn := MatM.good_n hm
  have Hm := hid hm
  have Hw := hid hwm
  have hat : ∀ (i j : Nat) w', FS w' D m.ws → (i : Int) < m.rows → (j : Int) < m.cols → Calls Try.prog 186 #[.agg #[D, .int .i64 m.off, .int .i64 m.rows, .int .i64 m.cols, .int .i64 m.ld], .int .i64 i, .int .i64 j] w' (fun e w2 => ∃ b, e = .returned (.float .f64 b) ∧ IsF b (m.num i j) ∧ ∃ o n, w2 = ext w' o n) := fun i j w' h hi hj => vat_any m D i j w' h Hm.out Hw.out hi hj hl
  clear hm hwm
  go_enter Try.func171, Try.ntmps171
  refine seq_stop ?_
  go_wp2
  refine stop_go (fun W hW => ?_)
  have s1 : w.heap.size < W.heap.size := by rw [hW]; simp only [World.size_alloc]; omega
  have b1 : ∀ i, W.cell? ⟨w.heap.size, i, none⟩ = (#[.func (.func 167) #[] #[P1], .func (.func 168) #[] #[P2]] : Array Value)[i]? := by intro i; rw [hW]; go_simp
  have s2 : w.heap.size + 1 < W.heap.size := by rw [hW]; simp only [World.size_alloc]; omega
  have b2 : ∀ i, W.cell? ⟨w.heap.size + 1, i, none⟩ = (#[D, .int .i64 m.off, .int .i64 m.rows, .int .i64 m.cols, .int .i64 m.ld] : Array Value)[i]? := by intro i; rw [hW]; go_simp
  have g0 : Grew w W := by rw [hW]; exact ((Grew.refl _).alloc _).alloc _
  clear hW
  have hDW := hD.grew g0
  have z0 := g0.below.size
  go_wp2
  go_loopw [5, 11] (fun v c wr => ∃ (i : Nat) (o : Array Obj) (n : Nat), (i : Int) ≤ m.rows ∧ c = .int .i64 i ∧ wr = ext W o n ∧ OwnF 22 wr W.heap.size v (rowsTo F G m.num m.cols.toNat i)) (fun _ c _ => (m.rows - intOf c).toNat)
  case atStart => exact ⟨0, #[], _, hn.1, rfl, ext_zero.symm, by simpa [rowsTo] using OwnF.nil _ _ _⟩
  case round =>
    obtain ⟨i, o3, n3, hi, rfl, hwr, hown⟩ := hrel
    have gw : Grew W wr := ⟨_, _, hwr⟩
    have gww : Grew w wr := Grew.trans g0 gw
    have zr := gw.below.size
    clear hwr
    have t1 : ∀ i, wr.cell? ⟨w.heap.size, i, none⟩ = (#[.func (.func 167) #[] #[P1], .func (.func 168) #[] #[P2]] : Array Value)[i]? := fun i => (gw.cell s1).trans (b1 i)
    have t2 : ∀ i, wr.cell? ⟨w.heap.size + 1, i, none⟩ = (#[D, .int .i64 m.off, .int .i64 m.rows, .int .i64 m.cols, .int .i64 m.ld] : Array Value)[i]? := fun i => (gw.cell s2).trans (b2 i)
    have k1 : w.heap.size < wr.heap.size := by omega
    have k2 : w.heap.size + 1 < wr.heap.size := by omega
    have hDr := hDW.grew gw
    by_cases hlt : (i : Int) < m.rows
    · have hll : (rowsTo F G m.num m.cols.toNat i).length = i := rowsTo_length _ _ _ _ _
      have h1i := fun w' => h1 i w' hlt
      go_wp2_with (first | (go_at_call 167; ((with_reducible refine (h1i _ (Grew.trans gww (by (show Grew _ _; repeat (first | (with_reducible exact Grew.refl _) | (with_reducible assumption) | (with_reducible refine Grew.ext ?_ _ _) | (with_reducible refine Grew.alloc ?_ _) | ((with_reducible refine Grew.setCell ?_ ?_ _); rotate_left; (focus (dsimp only; first | omega | (simp only [size_ext, World.size_alloc, Array.size_append]; omega)))) | (with_reducible refine Grew.drewN ?_ _) | (with_reducible refine Grew.drew ?_)))))).mono ?_); rintro e w1 ⟨r0, rfl, hr0, o1, n1, rfl⟩)))
      go_loopw [7, 20] (fun a c wr2 => ∃ (j s : Nat) (o : Array Obj) (n : Nat), (j : Int) ≤ m.cols ∧ c = .int .i64 j ∧ a = .float .f64 s ∧ IsF s (accR F G m.num i j) ∧ wr2 = ext wr o n) (fun _ c _ => (m.cols - intOf c).toNat)
      case atStart => exact ⟨0, r0, o1, n1, hn.2.1, rfl, rfl, hr0, rfl⟩
      case round =>
        obtain ⟨j, s, o4, n4, hj, rfl, rfl, hs, hwr2⟩ := hrel
        subst hwr2
        by_cases hlj : (j : Int) < m.cols
        · have Hlj := hid hlj
          have h2j := fun (s S a A : Nat) w' p q => h2 s S a A j w' p q hlj
          have hatj := fun w' p => hat i j w' p hlt hlj
          go_wp2
          refine wp_region_R (Grew wr) [] [(0,0), (0,1), (0,2), (0,3), (0,4), (0,5), (0,7), (1,6), (1,8), (0,9)] (by kernel_rfl) (by kernel_rfl) (fun _ _ _ _ h _ => h) (by first | exact ⟨_, _, ext_drew⟩ | exact ⟨_, _, drew_ext0⟩ | (show Grew _ _; repeat (first | (with_reducible exact Grew.refl _) | (with_reducible assumption) | (with_reducible refine Grew.ext ?_ _ _) | (with_reducible refine Grew.alloc ?_ _) | ((with_reducible refine Grew.setCell ?_ ?_ _); rotate_left; (focus (dsimp only; first | omega | (simp only [size_ext, World.size_alloc, Array.size_append]; omega)))) | (with_reducible refine Grew.drewN ?_ _) | (with_reducible refine Grew.drew ?_)))) ?_
          go_wp2_with (first | ((with_reducible refine wpR_id ?_); first | (refine wpR_take (v := ?_) rfl rfl ?_ ?_; rotate_left; (focus (rintro w' ⟨o', n', rfl⟩; go_simp; try with_reducible rfl)); simp only [Act.put, List.setIfInBounds_toArray, List.set_cons_zero, List.set_cons_succ]) | (refine wpR_pure (v := ?_) rfl rfl ?_ ?_; rotate_left; (focus (intro w'; go_simp; try with_reducible rfl)); simp only [Act.put, List.setIfInBounds_toArray, List.set_cons_zero, List.set_cons_succ]) | (refine wpR_takeG (v := ?_) rfl rfl rfl rfl rfl ?_ ?_; rotate_left; (focus (rintro w' ⟨o', n', rfl⟩; go_simp; try with_reducible rfl)); simp only [Act.put, List.setIfInBounds_toArray, List.set_cons_zero, List.set_cons_succ]) | (refine wpR_skip rfl rfl rfl rfl rfl rfl ?_; simp only [Act.put, List.setIfInBounds_toArray, List.set_cons_zero, List.set_cons_succ]) | (refine wpR_skipU rfl rfl rfl rfl rfl ?_; simp only [Act.put, List.setIfInBounds_toArray, List.set_cons_zero, List.set_cons_succ]) | (refine wpR_do rfl rfl (fun K hK => ?_)) | (refine wpR_doG rfl rfl rfl rfl rfl (fun K hK => ?_)) | (refine wpR_last rfl rfl (fun K hK => ?_)) | (refine wpR_nil ?_)) | ((with_reducible refine wpR_go ?_ ?_); (focus exact ⟨_, _, rfl⟩)) | ((with_reducible refine upon_id ?_); refine upon_fop rfl (by assumption) (by assumption) ?_; intro rr nn hr) | (go_at_call 186; ((with_reducible refine (hatj _ ?_).mono ?_); (focus (first | (with_reducible assumption) | (with_reducible refine FS.ext ?_ _ _; with_reducible assumption) | (with_reducible refine IS.ext ?_ _ _; with_reducible assumption) | (refine hDu _ ?_; with_reducible assumption) | (refine hOu _ ?_; with_reducible assumption) | (refine hDa _ ?_; with_reducible assumption) | (refine hDb _ ?_; with_reducible assumption) | (refine hDc _ ?_; with_reducible assumption) | (refine hDd _ ?_; with_reducible assumption) | (refine FW.fs ?_ (by omega) _; with_reducible assumption) | (refine WS.fs ?_; with_reducible assumption) | (refine FW.fs ?_ (by omega) _; assumption) | omega | assumption)); rintro e w1 ⟨ra, rfl, hra, o5, n5, rfl⟩)) | (go_at_call 168; ((with_reducible refine (h2j s _ ra _ _ hs hra (Grew.trans gww (by (show Grew _ _; repeat (first | (with_reducible exact Grew.refl _) | (with_reducible assumption) | (with_reducible refine Grew.ext ?_ _ _) | (with_reducible refine Grew.alloc ?_ _) | ((with_reducible refine Grew.setCell ?_ ?_ _); rotate_left; (focus (dsimp only; first | omega | (simp only [size_ext, World.size_alloc, Array.size_append]; omega)))) | (with_reducible refine Grew.drewN ?_ _) | (with_reducible refine Grew.drew ?_)))))).mono ?_); rintro e w1 ⟨rs, rfl, hrs, o6, n6, rfl⟩)))
          go_roundw
          case rel => exact ⟨j + 1, rs, _, _, by (have := Hlj.out; omega), by go_num, rfl, hrs, rfl⟩
          case measure => (have := Hlj.out; simp [intOf]; omega)
        · have e : j = m.cols.toNat := by omega
          have hs' : IsF s (accR F G m.num i m.cols.toNat) := by rw [← e]; exact hs
          go_wp2_with (first | (at_builtin; refine append1_f (W := W) (v := u5) (xs := rowsTo F G m.num m.cols.toNat i) (y := accR F G m.num i m.cols.toNat) finfo ?_ ?_ ?_ ((by rw [hll]; omega)) _ _ rfl rfl rfl ?_ rfl ?_; (focus (refine Grew.trans gw ?_; (show Grew _ _; repeat (first | (with_reducible exact Grew.refl _) | (with_reducible assumption) | (with_reducible refine Grew.ext ?_ _ _) | (with_reducible refine Grew.alloc ?_ _) | ((with_reducible refine Grew.setCell ?_ ?_ _); rotate_left; (focus (dsimp only; first | omega | (simp only [size_ext, World.size_alloc, Array.size_append]; omega)))) | (with_reducible refine Grew.drewN ?_ _) | (with_reducible refine Grew.drew ?_))))); (focus (refine OwnF.grew (w := wr) ?_ ?_; (focus (with_reducible assumption)); (focus (show Grew _ _; repeat (first | (with_reducible exact Grew.refl _) | (with_reducible assumption) | (with_reducible refine Grew.ext ?_ _ _) | (with_reducible refine Grew.alloc ?_ _) | ((with_reducible refine Grew.setCell ?_ ?_ _); rotate_left; (focus (dsimp only; first | omega | (simp only [size_ext, World.size_alloc, Array.size_append]; omega)))) | (with_reducible refine Grew.drewN ?_ _) | (with_reducible refine Grew.drew ?_)))))); (focus (exact hs')); (focus (first | rfl | (simp only [size_ext, World.size_alloc, Array.size_append]; done) | (simp only [size_ext, World.size_alloc, Array.size_append]; omega))); intro v oo nn ho hn))
          go_roundw
          case rel => exact ⟨i + 1, oo, nn, by omega, by go_num, rfl, by rw [rowsTo_succ]; exact ho⟩
          case measure => simp [intOf]; omega
    · have e : i = m.rows.toNat := by omega
      subst e
      go_wp2
      go_ret
      exact ⟨_, rfl, ownF_mono hown z0, gww⟩
set_option maxRecDepth 100000 in
set_option maxHeartbeats 2000000 in
/-- resid's fold.rows. -/
theorem rowsB_any (F : Nat → Nat) (G : Nat → Nat → Nat → Nat) (m : MatM) (D : Value) (P1 P2 : Value) (w : World) (hD : FS w D m.ws) (hm : m.good = true) (hwm : m.wf) (hl : m.ws.length ≤ 1000000) (hrr : m.rows ≤ 1000) (hcc : m.cols ≤ 1000)
    (h1 : ∀ (i : Nat) w', (i : Int) < m.rows → Grew w w' → Calls Try.prog 169 #[.int .i64 i, P1] w' (fun e w2 => ∃ r, e = .returned (.float .f64 r) ∧ IsF r (F i) ∧ ∃ o n, w2 = ext w' o n))
    (h2 : ∀ (s S a A j : Nat) w', IsF s S → IsF a A → (j : Int) < m.cols → Grew w w' → Calls Try.prog 170 #[.float .f64 s, .float .f64 a, .int .i64 j, P2] w' (fun e w2 => ∃ r, e = .returned (.float .f64 r) ∧ IsF r (G S A j) ∧ ∃ o n, w2 = ext w' o n)) :
   Calls Try.prog 171 #[.agg #[.func (.func 169) #[] #[P1], .func (.func 170) #[] #[P2]], .agg #[D, .int .i64 m.off, .int .i64 m.rows, .int .i64 m.cols, .int .i64 m.ld]] w
     (fun e w' => ∃ v, e = .returned v ∧ OwnF 22 w' w.heap.size v (rowsTo F G m.num m.cols.toNat m.rows.toNat) ∧ ∃ o n, w' = ext w o n) := by
  have hn := MatM.good_n hm
  have Hm := hid hm
  have Hw := hid hwm
  have hat : ∀ (i j : Nat) w', FS w' D m.ws → (i : Int) < m.rows → (j : Int) < m.cols → Calls Try.prog 186 #[.agg #[D, .int .i64 m.off, .int .i64 m.rows, .int .i64 m.cols, .int .i64 m.ld], .int .i64 i, .int .i64 j] w' (fun e w2 => ∃ b, e = .returned (.float .f64 b) ∧ IsF b (m.num i j) ∧ ∃ o n, w2 = ext w' o n) := fun i j w' h hi hj => vat_any m D i j w' h Hm.out Hw.out hi hj hl
  clear hm hwm
  go_enter Try.func171, Try.ntmps171
  refine seq_stop ?_
  go_wp2
  refine stop_go (fun W hW => ?_)
  have s1 : w.heap.size < W.heap.size := by rw [hW]; simp only [World.size_alloc]; omega
  have b1 : ∀ i, W.cell? ⟨w.heap.size, i, none⟩ = (#[.func (.func 169) #[] #[P1], .func (.func 170) #[] #[P2]] : Array Value)[i]? := by intro i; rw [hW]; go_simp
  have s2 : w.heap.size + 1 < W.heap.size := by rw [hW]; simp only [World.size_alloc]; omega
  have b2 : ∀ i, W.cell? ⟨w.heap.size + 1, i, none⟩ = (#[D, .int .i64 m.off, .int .i64 m.rows, .int .i64 m.cols, .int .i64 m.ld] : Array Value)[i]? := by intro i; rw [hW]; go_simp
  have g0 : Grew w W := by rw [hW]; exact ((Grew.refl _).alloc _).alloc _
  clear hW
  have hDW := hD.grew g0
  have z0 := g0.below.size
  go_wp2
  go_loopw [5, 11] (fun v c wr => ∃ (i : Nat) (o : Array Obj) (n : Nat), (i : Int) ≤ m.rows ∧ c = .int .i64 i ∧ wr = ext W o n ∧ OwnF 22 wr W.heap.size v (rowsTo F G m.num m.cols.toNat i)) (fun _ c _ => (m.rows - intOf c).toNat)
  case atStart => exact ⟨0, #[], _, hn.1, rfl, ext_zero.symm, by simpa [rowsTo] using OwnF.nil _ _ _⟩
  case round =>
    obtain ⟨i, o3, n3, hi, rfl, hwr, hown⟩ := hrel
    have gw : Grew W wr := ⟨_, _, hwr⟩
    have gww : Grew w wr := Grew.trans g0 gw
    have zr := gw.below.size
    clear hwr
    have t1 : ∀ i, wr.cell? ⟨w.heap.size, i, none⟩ = (#[.func (.func 169) #[] #[P1], .func (.func 170) #[] #[P2]] : Array Value)[i]? := fun i => (gw.cell s1).trans (b1 i)
    have t2 : ∀ i, wr.cell? ⟨w.heap.size + 1, i, none⟩ = (#[D, .int .i64 m.off, .int .i64 m.rows, .int .i64 m.cols, .int .i64 m.ld] : Array Value)[i]? := fun i => (gw.cell s2).trans (b2 i)
    have k1 : w.heap.size < wr.heap.size := by omega
    have k2 : w.heap.size + 1 < wr.heap.size := by omega
    have hDr := hDW.grew gw
    by_cases hlt : (i : Int) < m.rows
    · have hll : (rowsTo F G m.num m.cols.toNat i).length = i := rowsTo_length _ _ _ _ _
      have h1i := fun w' => h1 i w' hlt
      go_wp2_with (first | (go_at_call 169; ((with_reducible refine (h1i _ (Grew.trans gww (by (show Grew _ _; repeat (first | (with_reducible exact Grew.refl _) | (with_reducible assumption) | (with_reducible refine Grew.ext ?_ _ _) | (with_reducible refine Grew.alloc ?_ _) | ((with_reducible refine Grew.setCell ?_ ?_ _); rotate_left; (focus (dsimp only; first | omega | (simp only [size_ext, World.size_alloc, Array.size_append]; omega)))) | (with_reducible refine Grew.drewN ?_ _) | (with_reducible refine Grew.drew ?_)))))).mono ?_); rintro e w1 ⟨r0, rfl, hr0, o1, n1, rfl⟩)))
      go_loopw [7, 20] (fun a c wr2 => ∃ (j s : Nat) (o : Array Obj) (n : Nat), (j : Int) ≤ m.cols ∧ c = .int .i64 j ∧ a = .float .f64 s ∧ IsF s (accR F G m.num i j) ∧ wr2 = ext wr o n) (fun _ c _ => (m.cols - intOf c).toNat)
      case atStart => exact ⟨0, r0, o1, n1, hn.2.1, rfl, rfl, hr0, rfl⟩
      case round =>
        obtain ⟨j, s, o4, n4, hj, rfl, rfl, hs, hwr2⟩ := hrel
        subst hwr2
        by_cases hlj : (j : Int) < m.cols
        · have Hlj := hid hlj
          have h2j := fun (s S a A : Nat) w' p q => h2 s S a A j w' p q hlj
          have hatj := fun w' p => hat i j w' p hlt hlj
          go_wp2
          refine wp_region_R (Grew wr) [] [(0,0), (0,1), (0,2), (0,3), (0,4), (0,5), (0,7), (1,6), (1,8), (0,9)] (by kernel_rfl) (by kernel_rfl) (fun _ _ _ _ h _ => h) (by first | exact ⟨_, _, ext_drew⟩ | exact ⟨_, _, drew_ext0⟩ | (show Grew _ _; repeat (first | (with_reducible exact Grew.refl _) | (with_reducible assumption) | (with_reducible refine Grew.ext ?_ _ _) | (with_reducible refine Grew.alloc ?_ _) | ((with_reducible refine Grew.setCell ?_ ?_ _); rotate_left; (focus (dsimp only; first | omega | (simp only [size_ext, World.size_alloc, Array.size_append]; omega)))) | (with_reducible refine Grew.drewN ?_ _) | (with_reducible refine Grew.drew ?_)))) ?_
          go_wp2_with (first | ((with_reducible refine wpR_id ?_); first | (refine wpR_take (v := ?_) rfl rfl ?_ ?_; rotate_left; (focus (rintro w' ⟨o', n', rfl⟩; go_simp; try with_reducible rfl)); simp only [Act.put, List.setIfInBounds_toArray, List.set_cons_zero, List.set_cons_succ]) | (refine wpR_pure (v := ?_) rfl rfl ?_ ?_; rotate_left; (focus (intro w'; go_simp; try with_reducible rfl)); simp only [Act.put, List.setIfInBounds_toArray, List.set_cons_zero, List.set_cons_succ]) | (refine wpR_takeG (v := ?_) rfl rfl rfl rfl rfl ?_ ?_; rotate_left; (focus (rintro w' ⟨o', n', rfl⟩; go_simp; try with_reducible rfl)); simp only [Act.put, List.setIfInBounds_toArray, List.set_cons_zero, List.set_cons_succ]) | (refine wpR_skip rfl rfl rfl rfl rfl rfl ?_; simp only [Act.put, List.setIfInBounds_toArray, List.set_cons_zero, List.set_cons_succ]) | (refine wpR_skipU rfl rfl rfl rfl rfl ?_; simp only [Act.put, List.setIfInBounds_toArray, List.set_cons_zero, List.set_cons_succ]) | (refine wpR_do rfl rfl (fun K hK => ?_)) | (refine wpR_doG rfl rfl rfl rfl rfl (fun K hK => ?_)) | (refine wpR_last rfl rfl (fun K hK => ?_)) | (refine wpR_nil ?_)) | ((with_reducible refine wpR_go ?_ ?_); (focus exact ⟨_, _, rfl⟩)) | ((with_reducible refine upon_id ?_); refine upon_fop rfl (by assumption) (by assumption) ?_; intro rr nn hr) | (go_at_call 186; ((with_reducible refine (hatj _ ?_).mono ?_); (focus (first | (with_reducible assumption) | (with_reducible refine FS.ext ?_ _ _; with_reducible assumption) | (with_reducible refine IS.ext ?_ _ _; with_reducible assumption) | (refine hDu _ ?_; with_reducible assumption) | (refine hOu _ ?_; with_reducible assumption) | (refine hDa _ ?_; with_reducible assumption) | (refine hDb _ ?_; with_reducible assumption) | (refine hDc _ ?_; with_reducible assumption) | (refine hDd _ ?_; with_reducible assumption) | (refine FW.fs ?_ (by omega) _; with_reducible assumption) | (refine WS.fs ?_; with_reducible assumption) | (refine FW.fs ?_ (by omega) _; assumption) | omega | assumption)); rintro e w1 ⟨ra, rfl, hra, o5, n5, rfl⟩)) | (go_at_call 170; ((with_reducible refine (h2j s _ ra _ _ hs hra (Grew.trans gww (by (show Grew _ _; repeat (first | (with_reducible exact Grew.refl _) | (with_reducible assumption) | (with_reducible refine Grew.ext ?_ _ _) | (with_reducible refine Grew.alloc ?_ _) | ((with_reducible refine Grew.setCell ?_ ?_ _); rotate_left; (focus (dsimp only; first | omega | (simp only [size_ext, World.size_alloc, Array.size_append]; omega)))) | (with_reducible refine Grew.drewN ?_ _) | (with_reducible refine Grew.drew ?_)))))).mono ?_); rintro e w1 ⟨rs, rfl, hrs, o6, n6, rfl⟩)))
          go_roundw
          case rel => exact ⟨j + 1, rs, _, _, by (have := Hlj.out; omega), by go_num, rfl, hrs, rfl⟩
          case measure => (have := Hlj.out; simp [intOf]; omega)
        · have e : j = m.cols.toNat := by omega
          have hs' : IsF s (accR F G m.num i m.cols.toNat) := by rw [← e]; exact hs
          go_wp2_with (first | (at_builtin; refine append1_f (W := W) (v := u5) (xs := rowsTo F G m.num m.cols.toNat i) (y := accR F G m.num i m.cols.toNat) finfo ?_ ?_ ?_ ((by rw [hll]; omega)) _ _ rfl rfl rfl ?_ rfl ?_; (focus (refine Grew.trans gw ?_; (show Grew _ _; repeat (first | (with_reducible exact Grew.refl _) | (with_reducible assumption) | (with_reducible refine Grew.ext ?_ _ _) | (with_reducible refine Grew.alloc ?_ _) | ((with_reducible refine Grew.setCell ?_ ?_ _); rotate_left; (focus (dsimp only; first | omega | (simp only [size_ext, World.size_alloc, Array.size_append]; omega)))) | (with_reducible refine Grew.drewN ?_ _) | (with_reducible refine Grew.drew ?_))))); (focus (refine OwnF.grew (w := wr) ?_ ?_; (focus (with_reducible assumption)); (focus (show Grew _ _; repeat (first | (with_reducible exact Grew.refl _) | (with_reducible assumption) | (with_reducible refine Grew.ext ?_ _ _) | (with_reducible refine Grew.alloc ?_ _) | ((with_reducible refine Grew.setCell ?_ ?_ _); rotate_left; (focus (dsimp only; first | omega | (simp only [size_ext, World.size_alloc, Array.size_append]; omega)))) | (with_reducible refine Grew.drewN ?_ _) | (with_reducible refine Grew.drew ?_)))))); (focus (exact hs')); (focus (first | rfl | (simp only [size_ext, World.size_alloc, Array.size_append]; done) | (simp only [size_ext, World.size_alloc, Array.size_append]; omega))); intro v oo nn ho hn))
          go_roundw
          case rel => exact ⟨i + 1, oo, nn, by omega, by go_num, rfl, by rw [rowsTo_succ]; exact ho⟩
          case measure => simp [intOf]; omega
    · have e : i = m.rows.toNat := by omega
      subst e
      go_wp2
      go_ret
      exact ⟨_, rfl, ownF_mono hown z0, gww⟩
end Go.Proofs.Ytcmggfpcbijcjaa
end
section
/-
  Contracts: resid.check, resid.Rest.
-/
set_option linter.unusedSimpArgs false
set_option linter.unusedVariables false
open Go Go.RowKit Sedge
namespace Go.Proofs.Ytcmggfpcbijcjaa
def chkE (m : MatM) (n1 n2 : Nat) : Int := if m.good = false then 1 else if m.rows ≠ m.cols ∨ 64 < m.rows ∨ (n1 : Int) ≠ m.rows ∨ (n2 : Int) ≠ m.rows then 3 else 0
set_option maxRecDepth 100000 in
set_option maxHeartbeats 1000000 in
/-- resid.check. -/
theorem rcheck_any (m : MatM) (D : Value) (a1 a2 : Option Addr) (n1 n2 c1 c2 : Nat) (w : World) (hD : FS w D m.ws) (hwf : m.wf) :
   Calls Try.prog 166 #[.agg #[D, .int .i64 m.off, .int .i64 m.rows, .int .i64 m.cols, .int .i64 m.ld], .slice a1 n1 c1, .slice a2 n2 c2] w (fun e w' => e = .returned (.int .i64 (chkE m n1 n2)) ∧ ∃ o n, w' = ext w o n) := by
  have Hw := hid hwf
  clear hwf
  cases hg : m.good
  · have q := hid (show chkE m n1 n2 = 1 by unfold chkE; rw [if_pos hg])
    go_enter Try.func166, Try.ntmps166
    refine seq_stop ?_
    go_wp2
    refine stop_go (fun W hW => ?_)
    have s1 : w.heap.size < W.heap.size := by rw [hW]; simp only [World.size_alloc]; omega
    have b1 : ∀ i, W.cell? ⟨w.heap.size, i, none⟩ = (#[D, .int .i64 m.off, .int .i64 m.rows, .int .i64 m.cols, .int .i64 m.ld] : Array Value)[i]? := by intro i; rw [hW]; go_simp
    have g0 : Grew w W := by rw [hW]; exact (Grew.refl _).alloc _
    clear hW
    have hDW := hD.grew g0
    go_wp2_with (first | (go_at_call 130; ((with_reducible refine (good_any m _ _ ?_ Hw.out).mono ?_); (focus (first | (with_reducible assumption) | (with_reducible refine FS.ext ?_ _ _; with_reducible assumption) | (with_reducible refine IS.ext ?_ _ _; with_reducible assumption) | (refine hDu _ ?_; with_reducible assumption) | (refine hOu _ ?_; with_reducible assumption) | (refine hDa _ ?_; with_reducible assumption) | (refine hDb _ ?_; with_reducible assumption) | (refine hDc _ ?_; with_reducible assumption) | (refine hDd _ ?_; with_reducible assumption) | (refine FW.fs ?_ (by omega) _; with_reducible assumption) | (refine WS.fs ?_; with_reducible assumption) | (refine FW.fs ?_ (by omega) _; assumption) | omega | assumption)); rintro e w1 ⟨rfl, o1, n1, rfl⟩)))
    go_ret
    exact ⟨ret_int q.out.symm, by (show Grew _ _; repeat (first | (with_reducible exact Grew.refl _) | (with_reducible assumption) | (with_reducible refine Grew.ext ?_ _ _) | (with_reducible refine Grew.alloc ?_ _) | ((with_reducible refine Grew.setCell ?_ ?_ _); rotate_left; (focus (dsimp only; first | omega | (simp only [size_ext, World.size_alloc, Array.size_append]; omega)))) | (with_reducible refine Grew.drewN ?_ _) | (with_reducible refine Grew.drew ?_)))⟩
  · have h0 : ¬ m.good = false := by rw [hg]; decide
    by_cases r1 : m.rows = m.cols
    · have e1 : (m.rows != m.cols) = false := by simpa using r1
      by_cases r2 : 64 < m.rows
      · have e2 : decide (64 < m.rows) = true := by simpa using r2
        have q := hid (show chkE m n1 n2 = 3 by unfold chkE; rw [if_neg h0, if_pos (.inr (.inl r2))])
        clear r1 r2
        go_enter Try.func166, Try.ntmps166
        refine seq_stop ?_
        go_wp2
        refine stop_go (fun W hW => ?_)
        have s1 : w.heap.size < W.heap.size := by rw [hW]; simp only [World.size_alloc]; omega
        have b1 : ∀ i, W.cell? ⟨w.heap.size, i, none⟩ = (#[D, .int .i64 m.off, .int .i64 m.rows, .int .i64 m.cols, .int .i64 m.ld] : Array Value)[i]? := by intro i; rw [hW]; go_simp
        have g0 : Grew w W := by rw [hW]; exact (Grew.refl _).alloc _
        clear hW
        have hDW := hD.grew g0
        go_wp2_with (first | (go_at_call 130; ((with_reducible refine (good_any m _ _ ?_ Hw.out).mono ?_); (focus (first | (with_reducible assumption) | (with_reducible refine FS.ext ?_ _ _; with_reducible assumption) | (with_reducible refine IS.ext ?_ _ _; with_reducible assumption) | (refine hDu _ ?_; with_reducible assumption) | (refine hOu _ ?_; with_reducible assumption) | (refine hDa _ ?_; with_reducible assumption) | (refine hDb _ ?_; with_reducible assumption) | (refine hDc _ ?_; with_reducible assumption) | (refine hDd _ ?_; with_reducible assumption) | (refine FW.fs ?_ (by omega) _; with_reducible assumption) | (refine WS.fs ?_; with_reducible assumption) | (refine FW.fs ?_ (by omega) _; assumption) | omega | assumption)); rintro e w1 ⟨rfl, o1, n1, rfl⟩)))
        go_ret
        exact ⟨ret_int q.out.symm, by (show Grew _ _; repeat (first | (with_reducible exact Grew.refl _) | (with_reducible assumption) | (with_reducible refine Grew.ext ?_ _ _) | (with_reducible refine Grew.alloc ?_ _) | ((with_reducible refine Grew.setCell ?_ ?_ _); rotate_left; (focus (dsimp only; first | omega | (simp only [size_ext, World.size_alloc, Array.size_append]; omega)))) | (with_reducible refine Grew.drewN ?_ _) | (with_reducible refine Grew.drew ?_)))⟩
      · have e2 : decide (64 < m.rows) = false := by simpa using r2
        by_cases r3 : (n1 : Int) = m.rows
        · have e3 : ((n1 : Int) != m.rows) = false := by simpa using r3
          by_cases r4 : (n2 : Int) = m.rows
          · have e4 : ((n2 : Int) != m.rows) = false := by simpa using r4
            have q := hid (show chkE m n1 n2 = 0 by unfold chkE; rw [if_neg h0, if_neg (fun h => h.elim (fun h => h r1) (fun h => h.elim r2 (fun h => h.elim (fun h => h r3) (fun h => h r4))))])
            clear r1 r2 r3 r4
            go_enter Try.func166, Try.ntmps166
            refine seq_stop ?_
            go_wp2
            refine stop_go (fun W hW => ?_)
            have s1 : w.heap.size < W.heap.size := by rw [hW]; simp only [World.size_alloc]; omega
            have b1 : ∀ i, W.cell? ⟨w.heap.size, i, none⟩ = (#[D, .int .i64 m.off, .int .i64 m.rows, .int .i64 m.cols, .int .i64 m.ld] : Array Value)[i]? := by intro i; rw [hW]; go_simp
            have g0 : Grew w W := by rw [hW]; exact (Grew.refl _).alloc _
            clear hW
            have hDW := hD.grew g0
            go_wp2_with (first | (go_at_call 130; ((with_reducible refine (good_any m _ _ ?_ Hw.out).mono ?_); (focus (first | (with_reducible assumption) | (with_reducible refine FS.ext ?_ _ _; with_reducible assumption) | (with_reducible refine IS.ext ?_ _ _; with_reducible assumption) | (refine hDu _ ?_; with_reducible assumption) | (refine hOu _ ?_; with_reducible assumption) | (refine hDa _ ?_; with_reducible assumption) | (refine hDb _ ?_; with_reducible assumption) | (refine hDc _ ?_; with_reducible assumption) | (refine hDd _ ?_; with_reducible assumption) | (refine FW.fs ?_ (by omega) _; with_reducible assumption) | (refine WS.fs ?_; with_reducible assumption) | (refine FW.fs ?_ (by omega) _; assumption) | omega | assumption)); rintro e w1 ⟨rfl, o1, n1, rfl⟩)))
            go_ret
            exact ⟨ret_int q.out.symm, by (show Grew _ _; repeat (first | (with_reducible exact Grew.refl _) | (with_reducible assumption) | (with_reducible refine Grew.ext ?_ _ _) | (with_reducible refine Grew.alloc ?_ _) | ((with_reducible refine Grew.setCell ?_ ?_ _); rotate_left; (focus (dsimp only; first | omega | (simp only [size_ext, World.size_alloc, Array.size_append]; omega)))) | (with_reducible refine Grew.drewN ?_ _) | (with_reducible refine Grew.drew ?_)))⟩
          · have e4 : ((n2 : Int) != m.rows) = true := by simpa using r4
            have q := hid (show chkE m n1 n2 = 3 by unfold chkE; rw [if_neg h0, if_pos (.inr (.inr (.inr r4)))])
            clear r1 r2 r3 r4
            go_enter Try.func166, Try.ntmps166
            refine seq_stop ?_
            go_wp2
            refine stop_go (fun W hW => ?_)
            have s1 : w.heap.size < W.heap.size := by rw [hW]; simp only [World.size_alloc]; omega
            have b1 : ∀ i, W.cell? ⟨w.heap.size, i, none⟩ = (#[D, .int .i64 m.off, .int .i64 m.rows, .int .i64 m.cols, .int .i64 m.ld] : Array Value)[i]? := by intro i; rw [hW]; go_simp
            have g0 : Grew w W := by rw [hW]; exact (Grew.refl _).alloc _
            clear hW
            have hDW := hD.grew g0
            go_wp2_with (first | (go_at_call 130; ((with_reducible refine (good_any m _ _ ?_ Hw.out).mono ?_); (focus (first | (with_reducible assumption) | (with_reducible refine FS.ext ?_ _ _; with_reducible assumption) | (with_reducible refine IS.ext ?_ _ _; with_reducible assumption) | (refine hDu _ ?_; with_reducible assumption) | (refine hOu _ ?_; with_reducible assumption) | (refine hDa _ ?_; with_reducible assumption) | (refine hDb _ ?_; with_reducible assumption) | (refine hDc _ ?_; with_reducible assumption) | (refine hDd _ ?_; with_reducible assumption) | (refine FW.fs ?_ (by omega) _; with_reducible assumption) | (refine WS.fs ?_; with_reducible assumption) | (refine FW.fs ?_ (by omega) _; assumption) | omega | assumption)); rintro e w1 ⟨rfl, o1, n1, rfl⟩)))
            go_ret
            exact ⟨ret_int q.out.symm, by (show Grew _ _; repeat (first | (with_reducible exact Grew.refl _) | (with_reducible assumption) | (with_reducible refine Grew.ext ?_ _ _) | (with_reducible refine Grew.alloc ?_ _) | ((with_reducible refine Grew.setCell ?_ ?_ _); rotate_left; (focus (dsimp only; first | omega | (simp only [size_ext, World.size_alloc, Array.size_append]; omega)))) | (with_reducible refine Grew.drewN ?_ _) | (with_reducible refine Grew.drew ?_)))⟩
        · have e3 : ((n1 : Int) != m.rows) = true := by simpa using r3
          have q := hid (show chkE m n1 n2 = 3 by unfold chkE; rw [if_neg h0, if_pos (.inr (.inr (.inl r3)))])
          clear r1 r2 r3
          go_enter Try.func166, Try.ntmps166
          refine seq_stop ?_
          go_wp2
          refine stop_go (fun W hW => ?_)
          have s1 : w.heap.size < W.heap.size := by rw [hW]; simp only [World.size_alloc]; omega
          have b1 : ∀ i, W.cell? ⟨w.heap.size, i, none⟩ = (#[D, .int .i64 m.off, .int .i64 m.rows, .int .i64 m.cols, .int .i64 m.ld] : Array Value)[i]? := by intro i; rw [hW]; go_simp
          have g0 : Grew w W := by rw [hW]; exact (Grew.refl _).alloc _
          clear hW
          have hDW := hD.grew g0
          go_wp2_with (first | (go_at_call 130; ((with_reducible refine (good_any m _ _ ?_ Hw.out).mono ?_); (focus (first | (with_reducible assumption) | (with_reducible refine FS.ext ?_ _ _; with_reducible assumption) | (with_reducible refine IS.ext ?_ _ _; with_reducible assumption) | (refine hDu _ ?_; with_reducible assumption) | (refine hOu _ ?_; with_reducible assumption) | (refine hDa _ ?_; with_reducible assumption) | (refine hDb _ ?_; with_reducible assumption) | (refine hDc _ ?_; with_reducible assumption) | (refine hDd _ ?_; with_reducible assumption) | (refine FW.fs ?_ (by omega) _; with_reducible assumption) | (refine WS.fs ?_; with_reducible assumption) | (refine FW.fs ?_ (by omega) _; assumption) | omega | assumption)); rintro e w1 ⟨rfl, o1, n1, rfl⟩)))
          go_ret
          exact ⟨ret_int q.out.symm, by (show Grew _ _; repeat (first | (with_reducible exact Grew.refl _) | (with_reducible assumption) | (with_reducible refine Grew.ext ?_ _ _) | (with_reducible refine Grew.alloc ?_ _) | ((with_reducible refine Grew.setCell ?_ ?_ _); rotate_left; (focus (dsimp only; first | omega | (simp only [size_ext, World.size_alloc, Array.size_append]; omega)))) | (with_reducible refine Grew.drewN ?_ _) | (with_reducible refine Grew.drew ?_)))⟩
    · have e1 : (m.rows != m.cols) = true := by simpa using r1
      have q := hid (show chkE m n1 n2 = 3 by unfold chkE; rw [if_neg h0, if_pos (.inl r1)])
      clear r1
      go_enter Try.func166, Try.ntmps166
      refine seq_stop ?_
      go_wp2
      refine stop_go (fun W hW => ?_)
      have s1 : w.heap.size < W.heap.size := by rw [hW]; simp only [World.size_alloc]; omega
      have b1 : ∀ i, W.cell? ⟨w.heap.size, i, none⟩ = (#[D, .int .i64 m.off, .int .i64 m.rows, .int .i64 m.cols, .int .i64 m.ld] : Array Value)[i]? := by intro i; rw [hW]; go_simp
      have g0 : Grew w W := by rw [hW]; exact (Grew.refl _).alloc _
      clear hW
      have hDW := hD.grew g0
      go_wp2_with (first | (go_at_call 130; ((with_reducible refine (good_any m _ _ ?_ Hw.out).mono ?_); (focus (first | (with_reducible assumption) | (with_reducible refine FS.ext ?_ _ _; with_reducible assumption) | (with_reducible refine IS.ext ?_ _ _; with_reducible assumption) | (refine hDu _ ?_; with_reducible assumption) | (refine hOu _ ?_; with_reducible assumption) | (refine hDa _ ?_; with_reducible assumption) | (refine hDb _ ?_; with_reducible assumption) | (refine hDc _ ?_; with_reducible assumption) | (refine hDd _ ?_; with_reducible assumption) | (refine FW.fs ?_ (by omega) _; with_reducible assumption) | (refine WS.fs ?_; with_reducible assumption) | (refine FW.fs ?_ (by omega) _; assumption) | omega | assumption)); rintro e w1 ⟨rfl, o1, n1, rfl⟩)))
      go_ret
      exact ⟨ret_int q.out.symm, by (show Grew _ _; repeat (first | (with_reducible exact Grew.refl _) | (with_reducible assumption) | (with_reducible refine Grew.ext ?_ _ _) | (with_reducible refine Grew.alloc ?_ _) | ((with_reducible refine Grew.setCell ?_ ?_ _); rotate_left; (focus (dsimp only; first | omega | (simp only [size_ext, World.size_alloc, Array.size_append]; omega)))) | (with_reducible refine Grew.drewN ?_ _) | (with_reducible refine Grew.drew ?_)))⟩
def resL (m : MatM) (X Y : List Nat) : List Nat := rowsTo (fun i => Y.getD i 0) (fun s a j => fsub s (fmul a (X.getD j 0))) m.num m.cols.toNat m.rows.toNat
def rebL (m : MatM) (X Y : List Nat) : List Nat := rowsTo (fun i => fabs (Y.getD i 0)) (fun s a j => fadd s (fmul (fabs a) (fabs (X.getD j 0)))) m.num m.cols.toNat m.rows.toNat
set_option maxRecDepth 100000 in
set_option maxHeartbeats 1000000 in
/-- resid.Rest that tells an error. -/
theorem rest_no (m : MatM) (D VX VY : Value) (X Y : List Nat) (w : World) (hD : FS w D m.ws) (hX : FS w VX X) (hY : FS w VY Y) (hwf : m.wf) (hne : chkE m X.length Y.length ≠ 0) :
   Calls Try.prog 94 #[.agg #[D, .int .i64 m.off, .int .i64 m.rows, .int .i64 m.cols, .int .i64 m.ld], VX, VY] w (fun e w' => e = .returned (.tuple #[.slice none 0 0, .slice none 0 0, .int .i64 (chkE m X.length Y.length)]) ∧ ∃ o n, w' = ext w o n) := by
  obtain ⟨aX, cX, rfl⟩ := hX.shape
  obtain ⟨aY, cY, rfl⟩ := hY.shape
  obtain ⟨E, hE⟩ : ∃ E, E = chkE m X.length Y.length := ⟨_, rfl⟩
  have hck : ∀ w', FS w' D m.ws → Calls Try.prog 166 #[.agg #[D, .int .i64 m.off, .int .i64 m.rows, .int .i64 m.cols, .int .i64 m.ld], .slice aX X.length cX, .slice aY Y.length cY] w' (fun e w2 => e = .returned (.int .i64 E) ∧ ∃ o n, w2 = ext w' o n) := fun w' h => by
    rw [hE]; exact rcheck_any m D aX aY _ _ cX cY w' h hwf
  rw [← hE] at hne ⊢
  have d1 : (E != 0) = true := by simpa using hne
  clear hE hne hwf
  go_enter Try.func94, Try.ntmps94
  refine seq_stop ?_
  go_wp2
  refine stop_go (fun W hW => ?_)
  have s1 : w.heap.size < W.heap.size := by rw [hW]; simp only [World.size_alloc]; omega
  have b1 : ∀ i, W.cell? ⟨w.heap.size, i, none⟩ = (#[D, .int .i64 m.off, .int .i64 m.rows, .int .i64 m.cols, .int .i64 m.ld] : Array Value)[i]? := by intro i; rw [hW]; go_simp
  have s2 : w.heap.size + 1 < W.heap.size := by rw [hW]; simp only [World.size_alloc]; omega
  have b2 : ∀ i, W.cell? ⟨w.heap.size + 1, i, none⟩ = (#[.slice aX X.length cX] : Array Value)[i]? := by intro i; rw [hW]; go_simp
  have s3 : w.heap.size + 1 + 1 < W.heap.size := by rw [hW]; simp only [World.size_alloc]; omega
  have b3 : ∀ i, W.cell? ⟨w.heap.size + 1 + 1, i, none⟩ = (#[.slice aY Y.length cY] : Array Value)[i]? := by intro i; rw [hW]; go_simp
  have g0 : Grew w W := by rw [hW]; exact (((Grew.refl _).alloc _).alloc _).alloc _
  clear hW
  have hDW := hD.grew g0
  go_wp2_with (first | (go_at_call 166; ((with_reducible refine (hck _ ?_).mono ?_); (focus (first | (with_reducible assumption) | (with_reducible refine FS.ext ?_ _ _; with_reducible assumption) | (with_reducible refine IS.ext ?_ _ _; with_reducible assumption) | (refine hDu _ ?_; with_reducible assumption) | (refine hOu _ ?_; with_reducible assumption) | (refine hDa _ ?_; with_reducible assumption) | (refine hDb _ ?_; with_reducible assumption) | (refine hDc _ ?_; with_reducible assumption) | (refine hDd _ ?_; with_reducible assumption) | (refine FW.fs ?_ (by omega) _; with_reducible assumption) | (refine WS.fs ?_; with_reducible assumption) | (refine FW.fs ?_ (by omega) _; assumption) | omega | assumption)); rintro e w1 ⟨rfl, o1, n1, rfl⟩)))
  refine bodyPost_ret (v := .tuple #[.slice none 0 0, .slice none 0 0, .int .i64 E]) (by simp [results, Try.results94, go_sem, *]) rfl ?_
  exact ⟨rfl, by (show Grew _ _; repeat (first | (with_reducible exact Grew.refl _) | (with_reducible assumption) | (with_reducible refine Grew.ext ?_ _ _) | (with_reducible refine Grew.alloc ?_ _) | ((with_reducible refine Grew.setCell ?_ ?_ _); rotate_left; (focus (dsimp only; first | omega | (simp only [size_ext, World.size_alloc, Array.size_append]; omega)))) | (with_reducible refine Grew.drewN ?_ _) | (with_reducible refine Grew.drew ?_)))⟩
set_option maxRecDepth 100000 in
set_option maxHeartbeats 2000000 in
/-- resid.Rest. -/
theorem rest_any (m : MatM) (D VX VY : Value) (X Y : List Nat) (w : World) (hD : FS w D m.ws) (hX : FS w VX X) (hY : FS w VY Y) (hm : m.good = true) (hwf : m.wf) (hl : m.ws.length ≤ 1000000) (hrc : m.rows = m.cols) (hr : m.rows ≤ 64) (hnX : (X.length : Int) = m.rows) (hnY : (Y.length : Int) = m.rows) :
   Calls Try.prog 94 #[.agg #[D, .int .i64 m.off, .int .i64 m.rows, .int .i64 m.cols, .int .i64 m.ld], VX, VY] w (fun e w' => ∃ v1 v2, e = .returned (.tuple #[v1, v2, .int .i64 0]) ∧ OwnF 22 w' w.heap.size v1 (resL m X Y) ∧ OwnF 22 w' w.heap.size v2 (rebL m X Y) ∧ ∃ o n, w' = ext w o n) := by
  obtain ⟨aX, cX, rfl⟩ := hX.shape
  obtain ⟨aY, cY, rfl⟩ := hY.shape
  have hck : ∀ w', FS w' D m.ws → Calls Try.prog 166 #[.agg #[D, .int .i64 m.off, .int .i64 m.rows, .int .i64 m.cols, .int .i64 m.ld], .slice aX X.length cX, .slice aY Y.length cY] w' (fun e w2 => e = .returned (.int .i64 0) ∧ ∃ o n, w2 = ext w' o n) := fun w' h => by
    have h2 := rcheck_any m D aX aY X.length Y.length cX cY w' h hwf
    rw [show chkE m X.length Y.length = 0 by unfold chkE; rw [if_neg (by rw [hm]; decide), if_neg (by omega)]] at h2
    exact h2
  have hra : ∀ T1 T2 w', FS w' D m.ws → FS w' (.slice aX X.length cX) X → FS w' (.slice aY Y.length cY) Y → (∀ i, w'.cell? ⟨T1, i, none⟩ = (#[.slice aX X.length cX] : Array Value)[i]?) → (∀ i, w'.cell? ⟨T2, i, none⟩ = (#[.slice aY Y.length cY] : Array Value)[i]?) → T1 < w'.heap.size → T2 < w'.heap.size →
      Calls Try.prog 171 #[.agg #[.func (.func 167) #[] #[.pointer (some ⟨T2, 0, none⟩)], .func (.func 168) #[] #[.pointer (some ⟨T1, 0, none⟩)]], .agg #[D, .int .i64 m.off, .int .i64 m.rows, .int .i64 m.cols, .int .i64 m.ld]] w' (fun e w2 => ∃ v, e = .returned v ∧ OwnF 22 w2 w'.heap.size v (resL m X Y) ∧ ∃ o n, w2 = ext w' o n) := fun T1 T2 w' h1 h2 h3 h4 h5 h6 h7 =>
    rowsA_any _ _ m D _ _ w' h1 hm hwf hl (by omega) (by omega) (fun i w2 hi hg => rc1_any i T2 _ Y w2 (fun k => (hg.cell h7).trans (h5 k)) (h3.grew hg) (by omega)) (fun s S a A j w2 hs ha hj hg => rc2_any s S a A j T1 _ X w2 hs ha (fun k => (hg.cell h6).trans (h4 k)) (h2.grew hg) (by omega))
  have hrb : ∀ T1 T2 w', FS w' D m.ws → FS w' (.slice aX X.length cX) X → FS w' (.slice aY Y.length cY) Y → (∀ i, w'.cell? ⟨T1, i, none⟩ = (#[.slice aX X.length cX] : Array Value)[i]?) → (∀ i, w'.cell? ⟨T2, i, none⟩ = (#[.slice aY Y.length cY] : Array Value)[i]?) → T1 < w'.heap.size → T2 < w'.heap.size →
      Calls Try.prog 171 #[.agg #[.func (.func 169) #[] #[.pointer (some ⟨T2, 0, none⟩)], .func (.func 170) #[] #[.pointer (some ⟨T1, 0, none⟩)]], .agg #[D, .int .i64 m.off, .int .i64 m.rows, .int .i64 m.cols, .int .i64 m.ld]] w' (fun e w2 => ∃ v, e = .returned v ∧ OwnF 22 w2 w'.heap.size v (rebL m X Y) ∧ ∃ o n, w2 = ext w' o n) := fun T1 T2 w' h1 h2 h3 h4 h5 h6 h7 =>
    rowsB_any _ _ m D _ _ w' h1 hm hwf hl (by omega) (by omega) (fun i w2 hi hg => rc3_any i T2 _ Y w2 (fun k => (hg.cell h7).trans (h5 k)) (h3.grew hg) (by omega)) (fun s S a A j w2 hs ha hj hg => rc4_any s S a A j T1 _ X w2 hs ha (fun k => (hg.cell h6).trans (h4 k)) (by have := hg.below.size; omega) (h2.grew hg) (by omega))
  clear hwf hm hrc hr hnX hnY
  have hmf := hmf
  go_enter Try.func94, Try.ntmps94
  refine seq_stop ?_
  go_wp2
  refine stop_go (fun W hW => ?_)
  have s1 : w.heap.size < W.heap.size := by rw [hW]; simp only [World.size_alloc]; omega
  have b1 : ∀ i, W.cell? ⟨w.heap.size, i, none⟩ = (#[D, .int .i64 m.off, .int .i64 m.rows, .int .i64 m.cols, .int .i64 m.ld] : Array Value)[i]? := by intro i; rw [hW]; go_simp
  have s2 : w.heap.size + 1 < W.heap.size := by rw [hW]; simp only [World.size_alloc]; omega
  have b2 : ∀ i, W.cell? ⟨w.heap.size + 1, i, none⟩ = (#[.slice aX X.length cX] : Array Value)[i]? := by intro i; rw [hW]; go_simp
  have s3 : w.heap.size + 1 + 1 < W.heap.size := by rw [hW]; simp only [World.size_alloc]; omega
  have b3 : ∀ i, W.cell? ⟨w.heap.size + 1 + 1, i, none⟩ = (#[.slice aY Y.length cY] : Array Value)[i]? := by intro i; rw [hW]; go_simp
  have g0 : Grew w W := by rw [hW]; exact (((Grew.refl _).alloc _).alloc _).alloc _
  clear hW
  have hDW := hD.grew g0
  have hXW := hX.grew g0
  have hYW := hY.grew g0
  have z0 := g0.below.size
  go_wp2_with (first | (go_at_call 166; ((with_reducible refine (hck _ ?_).mono ?_); (focus (first | (with_reducible assumption) | (with_reducible refine FS.ext ?_ _ _; with_reducible assumption) | (with_reducible refine IS.ext ?_ _ _; with_reducible assumption) | (refine hDu _ ?_; with_reducible assumption) | (refine hOu _ ?_; with_reducible assumption) | (refine hDa _ ?_; with_reducible assumption) | (refine hDb _ ?_; with_reducible assumption) | (refine hDc _ ?_; with_reducible assumption) | (refine hDd _ ?_; with_reducible assumption) | (refine FW.fs ?_ (by omega) _; with_reducible assumption) | (refine WS.fs ?_; with_reducible assumption) | (refine FW.fs ?_ (by omega) _; assumption) | omega | assumption)); rintro e w1 ⟨rfl, o1, n1, rfl⟩)))
  refine name_any (fun V hV => ?_)
  have gV : Grew W V := by rw [← hV]; (show Grew _ _; repeat (first | (with_reducible exact Grew.refl _) | (with_reducible assumption) | (with_reducible refine Grew.ext ?_ _ _) | (with_reducible refine Grew.alloc ?_ _) | ((with_reducible refine Grew.setCell ?_ ?_ _); rotate_left; (focus (dsimp only; first | omega | (simp only [size_ext, World.size_alloc, Array.size_append]; omega)))) | (with_reducible refine Grew.drewN ?_ _) | (with_reducible refine Grew.drew ?_)))
  have zV : W.heap.size + o1.size + 1 < V.heap.size := by rw [← hV]; simp only [World.size_alloc, size_ext]; omega
  have c1 : ∀ i, V.cell? ⟨W.heap.size + o1.size, i, none⟩ = (#[.func (.func 167) #[] #[.pointer (some ⟨w.heap.size + 1 + 1, 0, none⟩)], .func (.func 168) #[] #[.pointer (some ⟨w.heap.size + 1, 0, none⟩)]] : Array Value)[i]? := by subst hV; intro i; go_simp
  have c2 : ∀ i, V.cell? ⟨W.heap.size + o1.size + 1, i, none⟩ = (#[.func (.func 169) #[] #[.pointer (some ⟨w.heap.size + 1 + 1, 0, none⟩)], .func (.func 170) #[] #[.pointer (some ⟨w.heap.size + 1, 0, none⟩)]] : Array Value)[i]? := by subst hV; intro i; go_simp
  have c3 : ∀ i, V.cell? ⟨w.heap.size, i, none⟩ = (#[D, .int .i64 m.off, .int .i64 m.rows, .int .i64 m.cols, .int .i64 m.ld] : Array Value)[i]? := fun i => (gV.cell s1).trans (b1 i)
  have gw : Grew w V := Grew.trans g0 gV
  have kU : W.heap.size + o1.size < V.heap.size := by omega
  have kw : w.heap.size < V.heap.size := by omega
  have hra' : ∀ w', Grew V w' → Calls Try.prog 171 #[.agg #[.func (.func 167) #[] #[.pointer (some ⟨w.heap.size + 1 + 1, 0, none⟩)], .func (.func 168) #[] #[.pointer (some ⟨w.heap.size + 1, 0, none⟩)]], .agg #[D, .int .i64 m.off, .int .i64 m.rows, .int .i64 m.cols, .int .i64 m.ld]] w' (fun e w2 => ∃ v, e = .returned v ∧ OwnF 22 w2 w.heap.size v (resL m X Y) ∧ ∃ o n, w2 = ext w' o n) := fun w' hg => by
    have gW := Grew.trans gV hg
    have zz := (Grew.trans gw hg).below.size
    have zW := gW.below.size
    refine (hra (w.heap.size + 1) (w.heap.size + 1 + 1) w' (hDW.grew gW) (hXW.grew gW) (hYW.grew gW) (fun i => (gW.cell s2).trans (b2 i)) (fun i => (gW.cell s3).trans (b3 i)) (by omega) (by omega)).mono fun e w2 hh => ?_
    obtain ⟨v, h1, h2, h3⟩ := hh
    exact ⟨v, h1, ownF_mono h2 zz, h3⟩
  have hrb' : ∀ w', Grew V w' → Calls Try.prog 171 #[.agg #[.func (.func 169) #[] #[.pointer (some ⟨w.heap.size + 1 + 1, 0, none⟩)], .func (.func 170) #[] #[.pointer (some ⟨w.heap.size + 1, 0, none⟩)]], .agg #[D, .int .i64 m.off, .int .i64 m.rows, .int .i64 m.cols, .int .i64 m.ld]] w' (fun e w2 => ∃ v, e = .returned v ∧ OwnF 22 w2 w.heap.size v (rebL m X Y) ∧ ∃ o n, w2 = ext w' o n) := fun w' hg => by
    have gW := Grew.trans gV hg
    have zz := (Grew.trans gw hg).below.size
    have zW := gW.below.size
    refine (hrb (w.heap.size + 1) (w.heap.size + 1 + 1) w' (hDW.grew gW) (hXW.grew gW) (hYW.grew gW) (fun i => (gW.cell s2).trans (b2 i)) (fun i => (gW.cell s3).trans (b3 i)) (by omega) (by omega)).mono fun e w2 hh => ?_
    obtain ⟨v, h1, h2, h3⟩ := hh
    exact ⟨v, h1, ownF_mono h2 zz, h3⟩
  obtain ⟨U, hU⟩ : ∃ U, U = W.heap.size + o1.size := ⟨_, rfl⟩
  rw [← hU] at c1 c2 zV kU
  simp only [← hU]
  clear hra hrb hV hU b1 b2 b3 hck
  refine wp_region_R (Grew V) [] [(0,0), (0,1), (0,3), (0,4), (1,2), (1,5), (0,6), (0,7), (0,8)] (by kernel_rfl) (by kernel_rfl) (fun _ _ _ _ h _ => h) (by first | exact ⟨_, _, ext_drew⟩ | exact ⟨_, _, drew_ext0⟩ | (show Grew _ _; repeat (first | (with_reducible exact Grew.refl _) | (with_reducible assumption) | (with_reducible refine Grew.ext ?_ _ _) | (with_reducible refine Grew.alloc ?_ _) | ((with_reducible refine Grew.setCell ?_ ?_ _); rotate_left; (focus (dsimp only; first | omega | (simp only [size_ext, World.size_alloc, Array.size_append]; omega)))) | (with_reducible refine Grew.drewN ?_ _) | (with_reducible refine Grew.drew ?_)))) ?_
  go_wp2_with (first | ((with_reducible refine wpR_id ?_); first | (refine wpR_take (v := ?_) rfl rfl ?_ ?_; rotate_left; (focus (rintro w' ⟨o', n', rfl⟩; go_simp; try with_reducible rfl)); simp only [Act.put, List.setIfInBounds_toArray, List.set_cons_zero, List.set_cons_succ]) | (refine wpR_pure (v := ?_) rfl rfl ?_ ?_; rotate_left; (focus (intro w'; go_simp; try with_reducible rfl)); simp only [Act.put, List.setIfInBounds_toArray, List.set_cons_zero, List.set_cons_succ]) | (refine wpR_takeG (v := ?_) rfl rfl rfl rfl rfl ?_ ?_; rotate_left; (focus (rintro w' ⟨o', n', rfl⟩; go_simp; try with_reducible rfl)); simp only [Act.put, List.setIfInBounds_toArray, List.set_cons_zero, List.set_cons_succ]) | (refine wpR_skip rfl rfl rfl rfl rfl rfl ?_; simp only [Act.put, List.setIfInBounds_toArray, List.set_cons_zero, List.set_cons_succ]) | (refine wpR_skipU rfl rfl rfl rfl rfl ?_; simp only [Act.put, List.setIfInBounds_toArray, List.set_cons_zero, List.set_cons_succ]) | (refine wpR_do rfl rfl (fun K hK => ?_)) | (refine wpR_doG rfl rfl rfl rfl rfl (fun K hK => ?_)) | (refine wpR_last rfl rfl (fun K hK => ?_)) | (refine wpR_nil ?_)) | ((with_reducible refine wpR_go ?_ ?_); (focus (show Grew _ _; repeat (first | (with_reducible exact Grew.refl _) | (with_reducible assumption) | (with_reducible refine Grew.ext ?_ _ _) | (with_reducible refine Grew.alloc ?_ _) | ((with_reducible refine Grew.setCell ?_ ?_ _); rotate_left; (focus (dsimp only; first | omega | (simp only [size_ext, World.size_alloc, Array.size_append]; omega)))) | (with_reducible refine Grew.drewN ?_ _) | (with_reducible refine Grew.drew ?_))))) | ((with_reducible refine upon_id ?_); refine upon_fop rfl (by assumption) (by assumption) ?_; intro rr nn hr) | (go_at_call 171; ((with_reducible refine (hra' _ (by (show Grew _ _; repeat (first | (with_reducible exact Grew.refl _) | (with_reducible assumption) | (with_reducible refine Grew.ext ?_ _ _) | (with_reducible refine Grew.alloc ?_ _) | ((with_reducible refine Grew.setCell ?_ ?_ _); rotate_left; (focus (dsimp only; first | omega | (simp only [size_ext, World.size_alloc, Array.size_append]; omega)))) | (with_reducible refine Grew.drewN ?_ _) | (with_reducible refine Grew.drew ?_))))).mono ?_); rintro e w1 ⟨v1, rfl, hv1, o2, n2, rfl⟩)) | (go_at_call 171; ((with_reducible refine (hrb' _ (by (show Grew _ _; repeat (first | (with_reducible exact Grew.refl _) | (with_reducible assumption) | (with_reducible refine Grew.ext ?_ _ _) | (with_reducible refine Grew.alloc ?_ _) | ((with_reducible refine Grew.setCell ?_ ?_ _); rotate_left; (focus (dsimp only; first | omega | (simp only [size_ext, World.size_alloc, Array.size_append]; omega)))) | (with_reducible refine Grew.drewN ?_ _) | (with_reducible refine Grew.drew ?_))))).mono ?_); rintro e w1 ⟨v2, rfl, hv2, o3, n3, rfl⟩)))
  refine bodyPost_ret (v := .tuple #[v1, v2, .int .i64 0]) (by simp [results, Try.results94, go_sem, *]) rfl ?_
  have hv1' := hv1.ext o3 n3
  simp only [ext_ext] at hv1' hv2
  exact ⟨v1, v2, rfl, hv1', hv2, Grew.trans gw (by (show Grew _ _; repeat (first | (with_reducible exact Grew.refl _) | (with_reducible assumption) | (with_reducible refine Grew.ext ?_ _ _) | (with_reducible refine Grew.alloc ?_ _) | ((with_reducible refine Grew.setCell ?_ ?_ _); rotate_left; (focus (dsimp only; first | omega | (simp only [size_ext, World.size_alloc, Array.size_append]; omega)))) | (with_reducible refine Grew.drewN ?_ _) | (with_reducible refine Grew.drew ?_))))⟩
end Go.Proofs.Ytcmggfpcbijcjaa
end
section
/-
  A region that draws, with acts in no fixed order: one goal for each operation, off facts that last.
-/
set_option linter.unusedSimpArgs false
set_option linter.unusedVariables false
namespace Sedge
open Go Go.RowKit
section
variable {P : Program} {Q : Exit → Act → World → Prop} {l : List Oper}
/-- Does an operation wait for number i? -/
def deps (o : Oper) (i : Nat) : Bool := o.after.any fun e => Region.binds .any e && e.on == i
def stepJ (P : Program) (Q : Exit → Act → World → Prop) (l : List Oper) (J : (Nat → Bool) → Act → World → Prop) (i : Nat) (o : Oper) : Prop :=
  ∀ L a w, L i = false → (∀ e, deps o e = true → L e = true) → (∀ k ok, nth l k = some ok → deps ok i = true → L k = false) → J L a w →
    ∀ K : Act → World → Prop, (∀ a' w', J (fun k => k == i || L k) a' w' → K a' w') → o.wp P a w K Q
def stepsJ (P : Program) (Q : Exit → Act → World → Prop) (l : List Oper) (J : (Nat → Bool) → Act → World → Prop) : List Oper → Nat → Prop
  | [], _ => True
  | o :: r, i => stepJ P Q l J i o ∧ stepsJ P Q l J r (i + 1)
def okAt : List Oper → Nat → Bool
  | [], _ => true
  | o :: r, i => o.guard.isNone && (o.after.all fun e => !Region.binds .any e || decide (e.on < i)) && okAt r (i + 1)
theorem stepsJ_nth {J : (Nat → Bool) → Act → World → Prop} : ∀ (r : List Oper) (b : Nat), stepsJ P Q l J r b → ∀ i o, nth r i = some o → stepJ P Q l J (b + i) o
  | [], _, _, _, _, h => by cases h
  | o :: r, b, h, 0, o', h' => by simp only [nth, Option.some.injEq] at h'; subst h'; exact h.1
  | o :: r, b, h, i + 1, o', h' => by have := stepsJ_nth r (b + 1) h.2 i o' h'; rwa [show b + (i + 1) = b + 1 + i from by omega]
theorem okAt_nth : ∀ (r : List Oper) (b : Nat), okAt r b = true → ∀ i o, nth r i = some o → o.guard = none ∧ ∀ e ∈ o.after, Region.binds .any e = true → e.on < b + i
  | [], _, _, _, _, h => by cases h
  | o :: r, b, h, 0, o', h' => by
    simp only [nth, Option.some.injEq] at h'; subst h'
    simp only [okAt, Bool.and_eq_true, Option.isNone_iff_eq_none, Array.all_eq_true_iff_forall_mem, Bool.or_eq_true, Bool.not_eq_true', decide_eq_true_eq] at h
    exact ⟨h.1.1, fun e he hb => by rcases h.1.2 e he with h1 | h1; · rw [h1] at hb; cases hb
                                    · exact h1⟩
  | o :: r, b, h, i + 1, o', h' => by
    simp only [okAt, Bool.and_eq_true] at h
    have := okAt_nth r (b + 1) h.2 i o' h'
    rwa [show b + 1 + i = b + (i + 1) from by omega] at this
theorem nth_len : ∀ (r : List Oper) (i : Nat), i < r.length → ∃ o, nth r i = some o
  | [], _, h => by simp at h
  | o :: r, 0, _ => ⟨o, rfl⟩
  | o :: r, i + 1, h => nth_len r i (by simpa using h)
theorem count_set : ∀ (b : List Bool) (i : Nat), b[i]? = some false → (b.set i true).count false + 1 = b.count false
  | [], i, h => by simp at h
  | x :: b, 0, h => by simp at h; subst h; simp
  | x :: b, i + 1, h => by
    have := count_set b i (by simpa using h)
    simp only [List.set_cons_succ, List.count_cons]; omega
theorem parJ {J : (Nat → Bool) → Act → World → Prop} (hok : okAt l 0 = true) (hs : stepsJ P Q l J l 0)
    (he : ∀ L a w, (∀ k, k < l.length → L k = true) → J L a w → Q .normal a w) :
    ∀ (fuel : Nat) (b : Array Bool) (a : Act) (w : World), b.size = l.length → b.toList.count false = fuel →
      (∀ k ok i, nth l k = some ok → deps ok i = true → b.getD k false = true → b.getD i false = true) → J (fun k => b.getD k false) a w →
      wpAny P .any l.toArray Q fuel b a w := by
  intro fuel
  induction fuel with
  | zero =>
    intro b a w hb hc _ hJ
    have hall : ∀ k, k < l.length → b.getD k false = true := by
      intro k hk
      have h1 : b[k]? = some b[k] := Array.getElem?_eq_getElem (by omega)
      have h2 : ∀ x ∈ b.toList, x ≠ false := fun x hx hf => by subst hf; exact absurd hx (List.count_eq_zero.1 hc)
      have h3 := h2 b[k] (by simp)
      simp [Array.getD, hb, hk]; simpa using h3
    refine ⟨?_, he _ _ _ hall hJ⟩
    rw [List.eq_nil_iff_forall_not_mem]
    intro j hj
    obtain ⟨h1, o, ho, _⟩ := mem_ready.1 hj
    have hjl : j < l.length := by have := (List.getElem?_eq_some_iff.1 (by simpa using ho)).1; simpa using this
    have := hall j hjl
    simp [Array.getD, hb, hjl] at h1 this
    rw [h1] at this; cases this
  | succ n ih =>
    intro b a w hb hc hcl hJ
    refine ⟨fun hr => ?_, fun i hi => ?_⟩
    · -- the least that is not listed would be ready
      have hall : ∀ k, k < l.length → b.getD k false = true := by
        intro k
        induction k using Nat.strongRecOn with
        | _ k ihk =>
          intro hk
          cases hbk : b.getD k false
          · obtain ⟨o, ho⟩ := nth_len l k hk
            have hin : k ∈ Region.ready .any l.toArray b := by
              refine mem_ready.2 ⟨?_, o, by rw [← nth_eq]; exact ho, fun e hee hbd => ?_⟩
              · simp [Array.getD, hb, hk] at hbk ⊢; exact hbk
              · have h1 := (okAt_nth l 0 hok k o ho).2 e hee hbd
                exact ihk e.on (by omega) (by omega)
            rw [hr] at hin; cases hin
          · rfl
      exact he _ _ _ hall hJ
    · obtain ⟨h1, o, ho, hd⟩ := mem_ready.1 hi
      have hil : i < l.length := by have := (List.getElem?_eq_some_iff.1 (by simpa using ho)).1; simpa using this
      have hbi : b.getD i false = false := by simp [Array.getD, hb, hil] at h1 ⊢; exact h1
      have hno : nth l i = some o := by rw [nth_eq]; exact ho
      unfold wpOp
      rw [ho]
      simp only [wanted_none' (okAt_nth l 0 hok i o hno).1, if_true]
      refine .inl ?_
      have hst := stepsJ_nth l 0 hs i o hno
      rw [Nat.zero_add] at hst
      have hdep : ∀ e, deps o e = true → b.getD e false = true := fun e hee => by
        unfold deps at hee
        simp only [Array.any_eq_true, Bool.and_eq_true, beq_iff_eq] at hee
        obtain ⟨m, hm, h2, h3⟩ := hee
        rw [← h3]; exact hd _ (Array.getElem_mem hm) h2
      refine hst (fun k => b.getD k false) a w hbi hdep (fun k ok hk hw => ?_) hJ _ (fun a' w' hJ' => ?_)
      · cases hk2 : b.getD k false
        · rfl
        · rw [hcl k ok i hk hw hk2] at hbi; cases hbi
      · have hset : ∀ k, (b.setIfInBounds i true).getD k false = (k == i || b.getD k false) := by
          intro k
          simp only [Array.getD_eq_getD_getElem?, Array.getElem?_setIfInBounds]
          by_cases hki : i = k
          · subst hki; simp [hb, hil]
          · have hki' : ¬ k = i := fun e => hki e.symm
            rw [if_neg hki]; simp [hki']
        refine ih _ a' w' (by simpa using hb) ?_ (fun k ok e hk hw hk2 => ?_) ?_
        · have := count_set b.toList i (by simp [Array.getD, hb, hil] at hbi ⊢; exact hbi)
          rw [Array.toList_setIfInBounds]; omega
        · rw [hset] at hk2 ⊢
          simp only [Bool.or_eq_true, beq_iff_eq] at hk2 ⊢
          rcases hk2 with h | h
          · subst h
            rw [hno] at hk; cases hk
            exact .inr (hdep e hw)
          · exact .inr (hcl k ok e hk hw h)
        · have : (fun k => (b.setIfInBounds i true).getD k false) = (fun k => k == i || b.getD k false) := funext hset
          rw [this]; exact hJ'
theorem wp_region_J {id : Nat} {a : Act} {w : World} {l : List Oper} (J : (Nat → Bool) → Act → World → Prop) (hm : P.follows .mixedOrders = true)
    (hok : okAt l 0 = true) (h0 : J (fun _ => false) a w.drew) (hs : stepsJ P Q l J l 0)
    (he : ∀ L a w, (∀ k, k < l.length → L k = true) → J L a w → Q .normal a w) : (Code.region id l.toArray true).wp P Q a w := by
  refine wp_region_any hm ?_
  have hrep : ∀ n k : Nat, (Array.replicate n false).getD k false = false := fun n k => by simp [Array.getD_eq_getD_getElem?, Array.getElem?_replicate]; split <;> rfl
  refine parJ hok hs he _ _ a _ (by simp) (by simp) (fun k ok i _ _ h => ?_) ?_
  · rw [hrep] at h; cases h
  · have : (fun k => (Array.replicate l.toArray.size false).getD k false) = (fun _ : Nat => false) := funext fun k => hrep _ k
    rw [this]; exact h0
end
end Sedge
end
section
/-
  The facts that last, in a region whose acts come in no fixed order: boxes, rows of floats of our own, values.
-/
set_option linter.unusedSimpArgs false
set_option linter.unusedVariables false
namespace Sedge
open Go Go.RowKit
/-- What an operation leaves that lasts. -/
inductive Fc where
  | is (v : Value)
  | box (n : Nat)
  | row (sh : Value → Value) (ws : List Nat)
  | put (d c : Nat) (cs : Value → Array Value) (ws : List Nat)
  | any
def ownRow (W : World) (own : Nat → Nat) (w : World) (t g : Nat) (ws : List Nat) : Prop := own g = t ∧ W.heap.size ≤ g ∧ FW w g ws
def Fc.holds (W : World) (ρ : Nat → Value) (own : Nat → Nat) (w : World) (d : Nat) : Fc → Prop
  | .is v => ρ d = v
  | .box n => ∃ p c e, ρ d = .pointer (some ⟨p, 0, none⟩) ∧ own p = d ∧ W.heap.size ≤ p ∧ w.heap[p]? = some (.cells c e (0, 0)) ∧ c.size = n
  | .row sh ws => ∃ g cap, ρ d = sh (.slice (some ⟨g, 0, none⟩) ws.length cap) ∧ ownRow W own w d g ws
  | .put d' c cs ws => ∃ p g cap e, ρ d' = .pointer (some ⟨p, 0, none⟩) ∧ own p = d' ∧ W.heap.size ≤ p ∧ w.heap[p]? = some (.cells (cs (.slice (some ⟨g, 0, none⟩) ws.length cap)) e (0, 0)) ∧ ownRow W own w c g ws
  | .any => True
def slotsOf (d : Nat) : Fc → List Nat
  | .put d' _ _ _ => [d']
  | .any => []
  | _ => [d]
theorem ownRow.grew {W w w' : World} {own own' : Nat → Nat} {t g : Nat} {ws : List Nat} (h : ownRow W own w t g ws) (hg : Grew w w') (ho : ∀ b, b < w.heap.size → own' b = own b) : ownRow W own' w' t g ws :=
  ⟨by rw [ho g h.2.2.lt]; exact h.1, h.2.1, h.2.2.grew hg⟩
theorem some_lt {w : World} {p : Nat} {o : Obj} (h : w.heap[p]? = some o) : p < w.heap.size := (Array.getElem?_eq_some_iff.1 h).1
theorem Fc.grew {W w w' : World} {ρ ρ' : Nat → Value} {own own' : Nat → Nat} {d : Nat} {f : Fc} (h : f.holds W ρ own w d) (hg : Grew w w') (ho : ∀ b, b < w.heap.size → own' b = own b)
    (hr : ∀ s ∈ slotsOf d f, ρ' s = ρ s) : f.holds W ρ' own' w' d := by
  cases f with
  | is v => exact (hr d (by simp [slotsOf])).trans h
  | box n =>
    obtain ⟨p, c, e, h1, h2, h3, h4, h5⟩ := h
    exact ⟨p, c, e, (hr d (by simp [slotsOf])).trans h1, by rw [ho p (some_lt h4)]; exact h2, h3, by rw [hg.below.block p (some_lt h4)]; exact h4, h5⟩
  | row sh ws =>
    obtain ⟨g, cap, h1, h2⟩ := h
    exact ⟨g, cap, (hr d (by simp [slotsOf])).trans h1, h2.grew hg ho⟩
  | put d' c cs ws =>
    obtain ⟨p, g, cap, e, h1, h2, h3, h4, h5⟩ := h
    exact ⟨p, g, cap, e, (hr d' (by simp [slotsOf])).trans h1, by rw [ho p (some_lt h4)]; exact h2, h3, by rw [hg.below.block p (some_lt h4)]; exact h4, h5.grew hg ho⟩
  | any => trivial
def setR (ρ : Nat → Value) (d : Nat) (v : Value) : Nat → Value := fun k => bif k == d then v else ρ k
theorem setR_eq {ρ : Nat → Value} {d : Nat} {v : Value} : setR ρ d v d = v := by simp [setR]
theorem setR_ne {ρ : Nat → Value} {d k : Nat} {v : Value} (h : k ≠ d) : setR ρ d v k = ρ k := by
  have : (k == d) = false := by simpa using h
  simp [setR, this]
/-- The slots, the region's own among them open. -/
def mkA (base : Array Value) (ds : List Nat) (ρ : Nat → Value) : Array Value := ds.foldl (fun t d => t.setIfInBounds d (ρ d)) base
theorem mkA_get (ρ : Nat → Value) : ∀ (ds : List Nat) (base : Array Value) (k : Nat), (mkA base ds ρ)[k]? = if k ∈ ds ∧ k < base.size then some (ρ k) else base[k]?
  | [], base, k => by simp [mkA]
  | d :: ds, base, k => by
    show (mkA (base.setIfInBounds d (ρ d)) ds ρ)[k]? = _
    rw [mkA_get ρ ds]
    simp only [Array.size_setIfInBounds, List.mem_cons]
    by_cases h1 : k ∈ ds
    · simp only [h1, true_and, or_true]
      split
      · rfl
      · rename_i h; rw [Array.getElem?_eq_none (by simpa using h), Array.getElem?_eq_none (by simpa using h)]
    · simp only [h1, false_and, if_false, or_false]
      rw [Array.getElem?_setIfInBounds]
      by_cases h2 : d = k
      · subst h2; simp only [if_true, true_and]
        split
        · rfl
        · rename_i h; rw [Array.getElem?_eq_none (by simpa using h)]
      · have : ¬ k = d := fun e => h2 e.symm
        simp [h2, this]
theorem mkA_self (base : Array Value) (ds : List Nat) : mkA base ds (fun k => base.getD k undef) = base := by
  apply Array.ext_getElem?; intro k
  rw [mkA_get]
  split
  · rename_i h; simp [Array.getD_eq_getD_getElem?, Array.getElem?_eq_getElem h.2]
  · rfl
theorem mkA_set (base : Array Value) (ds : List Nat) (ρ : Nat → Value) {d : Nat} (v : Value) (hd : d ∈ ds) : mkA base ds (setR ρ d v) = (mkA base ds ρ).setIfInBounds d v := by
  apply Array.ext_getElem?; intro k
  have hs : (mkA base ds ρ).size = base.size := by
    have : ∀ (ds : List Nat) (base : Array Value), (mkA base ds ρ).size = base.size := by
      intro ds
      induction ds with
      | nil => intro base; rfl
      | cons d ds ih => intro base; show (mkA (base.setIfInBounds d (ρ d)) ds ρ).size = _; rw [ih]; simp
    exact this ds base
  rw [mkA_get, Array.getElem?_setIfInBounds, mkA_get, hs]
  by_cases h : d = k
  · subst h; simp only [hd, setR_eq, true_and, if_true]
    split
    · rfl
    · rename_i h; rw [Array.getElem?_eq_none (by simpa using h)]
  · have : k ≠ d := fun e => h e.symm
    simp [h, setR_ne this]
def dstAt (l : List Oper) (k : Nat) : Option Nat := (nth l k).bind (·.dst)
/-- No fact speaks of another's slot, but of one that it waits for; the slots are the region's. -/
def okS (l : List Oper) (sp : List Fc) (ds : List Nat) : Bool :=
  (List.range l.length).all fun i => match nth l i with
    | none => true
    | some oi => match oi.dst with
      | none => true
      | some d => ds.contains d && (List.range l.length).all fun k => i == k || match nth l k, nth sp k with
        | some ok, some f => !(slotsOf (ok.dst.getD 0) f).contains d || deps ok i
        | _, _ => true
def JJ (W : World) (l : List Oper) (sp : List Fc) (base : Array Value) (ds : List Nat) (df : List Deferred) (L : Nat → Bool) (a : Act) (w : World) : Prop :=
  ∃ ρ own, a = ⟨mkA base ds ρ, df⟩ ∧ Grew W w ∧ ∀ k o f, nth l k = some o → nth sp k = some f → L k = true → f.holds W ρ own w (o.dst.getD 0)
section
variable {W w w' : World} {l : List Oper} {sp : List Fc} {base : Array Value} {ds : List Nat} {df : List Deferred} {L : Nat → Bool} {ρ : Nat → Value} {own own' : Nat → Nat}
theorem nth_lt {α : Type} : ∀ (l : List α) (i : Nat) (x : α), nth l i = some x → i < l.length
  | [], _, _, h => by cases h
  | _ :: _, 0, _, _ => by simp
  | _ :: l, i + 1, x, h => by have := nth_lt l i x h; simp; omega
theorem okS_spec (h : okS l sp ds = true) {i k : Nat} {oi ok : Oper} {f : Fc} {d : Nat} (hi : nth l i = some oi) (hd : oi.dst = some d) :
    d ∈ ds ∧ (i ≠ k → nth l k = some ok → nth sp k = some f → d ∈ slotsOf (ok.dst.getD 0) f → deps ok i = true) := by
  unfold okS at h
  rw [List.all_eq_true] at h
  have h1 := h i (by simpa using nth_lt _ _ _ hi)
  rw [hi] at h1
  simp only [hd, Bool.and_eq_true, List.all_eq_true, List.contains_iff_mem] at h1
  refine ⟨h1.1, fun hik hk hf hs => ?_⟩
  have h2 := h1.2 k (by simpa using nth_lt _ _ _ hk)
  rw [hk, hf] at h2
  simp only [Bool.or_eq_true, beq_iff_eq, Bool.not_eq_true'] at h2
  rcases h2 with h2 | h2 | h2
  · exact absurd h2 hik
  · rw [Bool.eq_false_iff] at h2; exact absurd (by simpa using hs) h2
  · exact h2
/-- The next fact, in a world that grew. -/
theorem JJ.next (hc : okS l sp ds = true) {i d : Nat} {o : Oper} {f : Fc} {v : Value} (hi : nth l i = some o) (hf : nth sp i = some f) (hd : o.dst = some d) 
    (hno : ∀ k ok, nth l k = some ok → deps ok i = true → L k = false) (hW : Grew W w)
    (hF : ∀ k o f, nth l k = some o → nth sp k = some f → L k = true → f.holds W ρ own w (o.dst.getD 0)) (hg : Grew w w') (ho : ∀ b, b < w.heap.size → own' b = own b)
    (hn : f.holds W (setR ρ d v) own' w' d) {t : Array Value} (ht : t = (mkA base ds ρ).setIfInBounds d v) : JJ W l sp base ds df (fun k => k == i || L k) ⟨t, df⟩ w' := by
  subst ht
  have hm := (okS_spec (k := 0) (ok := o) (f := f) hc hi hd).1
  refine ⟨setR ρ d v, own', by rw [mkA_set _ _ _ _ hm], hW.trans hg, fun k ok fk hk hfk hL => ?_⟩
  by_cases hki : k = i
  · subst hki
    rw [hi] at hk; rw [hf] at hfk
    cases hk; cases hfk
    rw [hd]; exact hn
  · have hLk : L k = true := by simpa [hki] using hL
    refine Fc.grew (hF k ok fk hk hfk hLk) hg ho fun s hs => setR_ne fun e => ?_
    subst e
    have := (okS_spec (ok := ok) (f := fk) hc hi hd).2 (fun e => hki e.symm) hk hfk hs
    rw [hno k ok hk this] at hLk; cases hLk
/-- A value. -/
theorem JJ.is (hc : okS l sp ds = true) {i d : Nat} {o : Oper} {v : Value} (hi : nth l i = some o) (hf : nth sp i = some (.is v)) (hd : o.dst = some d)
    (hno : ∀ k ok, nth l k = some ok → deps ok i = true → L k = false) (hW : Grew W w)
    (hF : ∀ k o f, nth l k = some o → nth sp k = some f → L k = true → f.holds W ρ own w (o.dst.getD 0)) {t : Array Value} (ht : t = (mkA base ds ρ).setIfInBounds d v) :
    JJ W l sp base ds df (fun k => k == i || L k) ⟨t, df⟩ w :=
  JJ.next hc hi hf hd hno hW hF (Grew.refl w) (fun _ _ => rfl) setR_eq ht
/-- A call that hands back a row of its own. -/
theorem JJ.row (hc : okS l sp ds = true) {i d : Nat} {o : Oper} {sh : Value → Value} {ws : List Nat} {g cap : Nat} (hi : nth l i = some o) (hf : nth sp i = some (.row sh ws)) (hd : o.dst = some d)
    (hno : ∀ k ok, nth l k = some ok → deps ok i = true → L k = false) (hW : Grew W w)
    (hF : ∀ k o f, nth l k = some o → nth sp k = some f → L k = true → f.holds W ρ own w (o.dst.getD 0)) (hg : Grew w w') (h1 : w.heap.size ≤ g) (h2 : FW w' g ws)
    {t : Array Value} (ht : t = (mkA base ds ρ).setIfInBounds d (sh (.slice (some ⟨g, 0, none⟩) ws.length cap))) :
    JJ W l sp base ds df (fun k => k == i || L k) ⟨t, df⟩ w' := by
  refine JJ.next (own' := fun b => if b < w.heap.size then own b else d) hc hi hf hd hno hW hF hg (fun b hb => by simp [hb]) ⟨g, cap, setR_eq, ?_, Nat.le_trans hW.below.size h1, h2⟩ ht
  have : ¬ g < w.heap.size := by omega
  simp [this]
/-- A new box. -/
theorem JJ.box (hc : okS l sp ds = true) {i d n : Nat} {o : Oper} {c : Array Value} {e : TypeId} (hi : nth l i = some o) (hf : nth sp i = some (.box n)) (hd : o.dst = some d)
    (hno : ∀ k ok, nth l k = some ok → deps ok i = true → L k = false) (hW : Grew W w)
    (hF : ∀ k o f, nth l k = some o → nth sp k = some f → L k = true → f.holds W ρ own w (o.dst.getD 0)) (hn : c.size = n)
    {t : Array Value} (ht : t = (mkA base ds ρ).setIfInBounds d (.pointer (some ⟨w.heap.size, 0, none⟩))) :
    JJ W l sp base ds df (fun k => k == i || L k) ⟨t, df⟩ (w.alloc (.cells c e)) := by
  refine JJ.next (own' := fun b => if b < w.heap.size then own b else d) hc hi hf hd hno hW hF ((Grew.refl w).alloc _) (fun b hb => by simp [hb]) ⟨w.heap.size, c, e, setR_eq, by simp, hW.below.size, ?_, hn⟩ ht
  show (w.heap.push _)[w.heap.size]? = _
  simp
def putFc (ok : Oper) (d' : Nat) : Fc → Bool
  | .put d2 c2 _ _ => d2 != d' && c2 != d'
  | .row _ _ => ok.dst.getD 0 != d'
  | _ => true
def putOk (l : List Oper) (sp : List Fc) (i d' : Nat) : Bool :=
  (List.range l.length).all fun k => i == k || match nth l k, nth sp k with
    | some ok, some f => putFc ok d' f
    | _, _ => true
/-- The store into a box of what a call handed back. -/
theorem JJ.put {i d' c n : Nat} {o : Oper} {cs : Value → Array Value} {ws : List Nat} (hi : nth l i = some o) (hf : nth sp i = some (.put d' c cs ws)) (hd : o.dst = none)
    (hp : putOk l sp i d' = true) (hne : c ≠ d') (hW : Grew W w)
    (hF : ∀ k o f, nth l k = some o → nth sp k = some f → L k = true → f.holds W ρ own w (o.dst.getD 0)) (hn : ∀ s, (cs s).size = n) (hbn : ∀ k ok m, nth l k = some ok → nth sp k = some (.box m) → ok.dst.getD 0 = d' → m = n)
    {p g cap : Nat} {c0 : Array Value} {e : TypeId} (h1 : ρ d' = .pointer (some ⟨p, 0, none⟩)) (h2 : own p = d') (h3 : W.heap.size ≤ p) (h4 : w.heap[p]? = some (.cells c0 e (0, 0))) (h6 : ownRow W own w c g ws)
    {t : Array Value} (ht : t = mkA base ds ρ) :
    JJ W l sp base ds df (fun k => k == i || L k) ⟨t, df⟩ (upd w p (cs (.slice (some ⟨g, 0, none⟩) ws.length cap))) := by
  subst ht
  refine ⟨ρ, own, rfl, hW.upd h3 _, fun k ok fk hk hfk hL => ?_⟩
  by_cases hki : k = i
  · subst hki
    rw [hi] at hk; rw [hf] at hfk
    cases hk; cases hfk
    refine ⟨p, g, cap, e, h1, h2, h3, block_upd h4, h6.1, h6.2.1, h6.2.2.upd_ne (fun hgp => ?_) _⟩
    subst hgp; rw [h6.1] at h2; exact hne h2
  · have hLk : L k = true := by simpa [hki] using hL
    have h := hF k ok fk hk hfk hLk
    have hpk : putFc ok d' fk = true := by
      unfold putOk at hp
      rw [List.all_eq_true] at hp
      have := hp k (by simpa using nth_lt _ _ _ hk)
      rw [hk, hfk] at this
      simp only [Bool.or_eq_true, beq_iff_eq] at this
      rcases this with h' | h'
      · exact absurd h'.symm hki
      · exact h'
    cases fk with
    | is v => exact h
    | any => trivial
    | box m =>
      obtain ⟨q, c1, e1, a1, a2, a3, a4, a5⟩ := h
      by_cases hq : q = p
      · subst hq
        rw [h2] at a2
        exact ⟨q, _, e1, a1, by rw [h2]; exact a2, a3, block_upd a4, by rw [hn]; exact (hbn k ok m hk hfk a2.symm).symm⟩
      · exact ⟨q, c1, e1, a1, a2, a3, by rw [block_upd_ne hq]; exact a4, a5⟩
    | row sh1 ws1 =>
      obtain ⟨g1, cap1, a1, a2, a3, a4⟩ := h
      refine ⟨g1, cap1, a1, a2, a3, a4.upd_ne (fun e => ?_) _⟩
      subst e; rw [h2] at a2; simp only [putFc, bne_iff_ne] at hpk; exact hpk a2.symm
    | put d2 c2 cs2 ws2 =>
      obtain ⟨q, g1, cap1, e1, a1, a2, a3, a4, b1, b2, b3⟩ := h
      simp only [putFc, Bool.and_eq_true, bne_iff_ne] at hpk
      refine ⟨q, g1, cap1, e1, a1, a2, a3, ?_, b1, b2, b3.upd_ne (fun e => ?_) _⟩
      · rw [block_upd_ne (fun e => ?_)]; · exact a4
        subst e; rw [h2] at a2; exact hpk.1 a2.symm
      · subst e; rw [h2] at b1; exact hpk.2 b1.symm
theorem JJ.start {a : Act} (hW : Grew W w) : JJ W l sp a.tmps ds a.defers (fun _ => false) a w :=
  ⟨fun k => a.tmps.getD k undef, fun _ => 0, by rw [mkA_self], hW, fun _ _ _ _ _ h => by cases h⟩
end
/-- The store of a whole value into a box. -/
theorem wp_store_box {P : Program} {op : Oper} {a : Act} {w : World} {K : Act → World → Prop} {Q : Exit → Act → World → Prop} (ty : TypeId) (x y : Operand) (ho : op.op = .store ty x y)
    {p : Nat} {c cells : Array Value} {e : TypeId} (hx : a.eval x = .pointer (some ⟨p, 0, none⟩)) (hy : a.eval y = .agg cells) (hb : w.heap[p]? = some (.cells c e (0, 0)))
    (hc : c.size = cells.size) (hi : (P.info? ty).map (·.size) = some cells.size) (h1 : cells.all (·.oneCell') = true)
    (h : K (a.put op.dst undef) (upd w p cells)) : op.wp P a w K Q := by
  unfold Oper.wp execOp
  simp only [ho, hx, hy, Instr.storeAt, Instr.sureAddr, Sem.run_bind, Sem.run_pure, Result.andThen_ok, run_storeVar_row w p e ty c cells hb hi hc h1]
  exact h
/-- Where an operation begins: the facts of what it waits for, and all else that the end wants. -/
structure St (W : World) (l : List Oper) (sp : List Fc) (L : Nat → Bool) (ρ : Nat → Value) (own : Nat → Nat) (w : World) (i : Nat) (o : Oper) : Prop where
  at' : nth l i = some o
  grew : Grew W w
  no : ∀ k ok, nth l k = some ok → deps ok i = true → L k = false
  all : ∀ k o f, nth l k = some o → nth sp k = some f → L k = true → f.holds W ρ own w (o.dst.getD 0)
  dep : ∀ e, deps o e = true → L e = true
def stepsS (P : Program) (Q : Exit → Act → World → Prop) (W : World) (l : List Oper) (sp : List Fc) (base : Array Value) (ds : List Nat) (df : List Deferred) : List Oper → Nat → Prop
  | [], _ => True
  | o :: r, i => (∀ L ρ own w, St W l sp L ρ own w i o → ∀ K : Act → World → Prop, (∀ a' w', JJ W l sp base ds df (fun k => k == i || L k) a' w' → K a' w') → o.wp P ⟨mkA base ds ρ, df⟩ w K Q) ∧ stepsS P Q W l sp base ds df r (i + 1)
theorem stepsJ_of {P : Program} {Q : Exit → Act → World → Prop} {W : World} {l : List Oper} {sp : List Fc} {base : Array Value} {ds : List Nat} {df : List Deferred} : ∀ (r : List Oper) (i : Nat), (∀ k o, nth r k = some o → nth l (i + k) = some o) →
    stepsS P Q W l sp base ds df r i → stepsJ P Q l (JJ W l sp base ds df) r i
  | [], _, _, _ => trivial
  | o :: r, i, hn, h => by
    refine ⟨fun L a w hi hdep hno hJ K hK => ?_, stepsJ_of r (i + 1) (fun k ok hk => by have := hn (k + 1) ok hk; rwa [show i + 1 + k = i + (k + 1) from by omega]) h.2⟩
    obtain ⟨ρ, own, rfl, hG, hF⟩ := hJ
    exact h.1 L ρ own w ⟨hn 0 o rfl, hG, hno, hF, hdep⟩ K hK
theorem wp_region_JJ {P : Program} {Q : Exit → Act → World → Prop} {id : Nat} {a : Act} {w : World} {l : List Oper} (W : World) (sp : List Fc) (ds : List Nat) (hm : P.follows .mixedOrders = true)
    (hok : okAt l 0 = true) (hW : Grew W w) (hs : stepsS P Q W l sp a.tmps ds a.defers l 0)
    (he : ∀ ρ own w', Grew W w' → (∀ k o f, nth l k = some o → nth sp k = some f → f.holds W ρ own w' (o.dst.getD 0)) → Q .normal ⟨mkA a.tmps ds ρ, a.defers⟩ w') : (Code.region id l.toArray true).wp P Q a w := by
  refine wp_region_J (JJ W l sp a.tmps ds a.defers) hm hok (JJ.start hW.drew) (stepsJ_of l 0 (fun k o h => by rw [Nat.zero_add]; exact h) hs) (fun L a' w' hL hJ => ?_)
  obtain ⟨ρ, own, rfl, hG, hF⟩ := hJ
  exact he ρ own w' hG fun k o f h1 h2 => hF k o f h1 h2 (hL k (nth_lt _ _ _ h1))
section
variable {W w w' : World} {l : List Oper} {sp : List Fc} {base : Array Value} {ds : List Nat} {df : List Deferred} {L : Nat → Bool} {ρ : Nat → Value} {own : Nat → Nat} {i : Nat} {o : Oper}
theorem St.fact (h : St W l sp L ρ own w i o) (k : Nat) {ok : Oper} {f : Fc} (h1 : nth l k = some ok) (h2 : nth sp k = some f) (h3 : deps o k = true) : f.holds W ρ own w (ok.dst.getD 0) := h.all k ok f h1 h2 (h.dep k h3)
theorem St.is (h : St W l sp L ρ own w i o) {d : Nat} {v : Value} (hf : nth sp i = some (.is v)) (hd : o.dst = some d) (hc : okS l sp ds = true) {w' : World} (hg : Grew w w') {t : Array Value} (ht : t = (mkA base ds ρ).setIfInBounds d v) :
    JJ W l sp base ds df (fun k => k == i || L k) ⟨t, df⟩ w' := JJ.next hc h.at' hf hd h.no h.grew h.all hg (fun _ _ => rfl) setR_eq ht
theorem St.row (h : St W l sp L ρ own w i o) {d : Nat} {sh : Value → Value} {ws : List Nat} {g cap : Nat} (hf : nth sp i = some (.row sh ws)) (hd : o.dst = some d) (hc : okS l sp ds = true)
    (hg : Grew w w') (h1 : w.heap.size ≤ g) (h2 : FW w' g ws) {t : Array Value} (ht : t = (mkA base ds ρ).setIfInBounds d (sh (.slice (some ⟨g, 0, none⟩) ws.length cap))) :
    JJ W l sp base ds df (fun k => k == i || L k) ⟨t, df⟩ w' := JJ.row hc h.at' hf hd h.no h.grew h.all hg h1 h2 ht
theorem St.box (h : St W l sp L ρ own w i o) {d n : Nat} {c : Array Value} {e : TypeId} (hf : nth sp i = some (.box n)) (hd : o.dst = some d) (hc : okS l sp ds = true)
    (hn : c.size = n) {t : Array Value} (ht : t = (mkA base ds ρ).setIfInBounds d (.pointer (some ⟨w.heap.size, 0, none⟩))) :
    JJ W l sp base ds df (fun k => k == i || L k) ⟨t, df⟩ (w.alloc (.cells c e)) := JJ.box hc h.at' hf hd h.no h.grew h.all hn ht
/-- The store, done. -/
theorem St.put {P : Program} {K : Act → World → Prop} {Q : Exit → Act → World → Prop} (h : St W l sp L ρ own w i o) {d' c n kb kr : Nat} {cs : Value → Array Value} {ws : List Nat} {ob or' : Oper}
    (hf : nth sp i = some (.put d' c cs ws)) (hd : o.dst = none) (hp : putOk l sp i d' = true) (hne : c ≠ d') (hn : ∀ s, (cs s).size = n)
    (hb1 : nth l kb = some ob) (hb2 : nth sp kb = some (.box n)) (hb3 : deps o kb = true) (hb4 : ob.dst = some d')
    (hr1 : nth l kr = some or') (hr2 : nth sp kr = some (.row (fun s => .agg (cs s)) ws)) (hr3 : deps o kr = true) (hr4 : or'.dst = some c)
    (hbn : (List.range l.length).all (fun k => match nth l k, nth sp k with | some ok, some (.box m) => ok.dst.getD 0 != d' || m == n | _, _ => true) = true)
    {ty : TypeId} {x y : Operand} (ho : o.op = .store ty x y) (hx : (⟨mkA base ds ρ, df⟩ : Act).eval x = ρ d') (hy : (⟨mkA base ds ρ, df⟩ : Act).eval y = ρ c)
    (hi : (P.info? ty).map (·.size) = some n) (h1 : ∀ a l c, (cs (.slice a l c)).all (·.oneCell') = true)
    (hK : ∀ a' w', JJ W l sp base ds df (fun k => k == i || L k) a' w' → K a' w') : o.wp P ⟨mkA base ds ρ, df⟩ w K Q := by
  have hb := h.fact kb hb1 hb2 hb3
  have hr := h.fact kr hr1 hr2 hr3
  rw [hb4] at hb; rw [hr4] at hr
  obtain ⟨p, c0, e, b1, b2, b3, b4, b5⟩ := hb
  obtain ⟨g, cap, r1, r2⟩ := hr
  simp only [Option.getD_some] at b1 b2 r1 r2
  refine wp_store_box ty x y ho (p := p) (hx.trans b1) (hy.trans r1) b4 (by rw [b5, hn]) (by rw [hn]; exact hi) (h1 _ _ _) (hK _ _ ?_)
  rw [hd]
  refine JJ.put h.at' hf hd hp hne h.grew h.all hn (fun k ok m hk hs hm => ?_) b1 b2 b3 b4 r2 rfl
  rw [List.all_eq_true] at hbn
  have := hbn k (by simpa using nth_lt _ _ _ hk)
  rw [hk, hs] at this
  simp only [Bool.or_eq_true, bne_iff_ne, beq_iff_eq] at this
  exact this.resolve_left (fun h => h hm)
end
section
variable {P : Program} {Q : Exit → Act → World → Prop} {W : World} {l : List Oper} {sp : List Fc} {base : Array Value} {ds : List Nat} {df : List Deferred}
theorem stepsS_nil {i : Nat} : stepsS P Q W l sp base ds df [] i := trivial
theorem stepsS_cons {o : Oper} {r : List Oper} {i j : Nat} (hj : i + 1 = j)
    (h : ∀ L ρ own w, St W l sp L ρ own w i o → ∀ K : Act → World → Prop, (∀ a' w', JJ W l sp base ds df (fun k => k == i || L k) a' w' → K a' w') → o.wp P ⟨mkA base ds ρ, df⟩ w K Q)
    (hr : stepsS P Q W l sp base ds df r j) : stepsS P Q W l sp base ds df (o :: r) i := by subst hj; exact ⟨h, hr⟩
theorem mkA_nil {base : Array Value} {ρ : Nat → Value} : mkA base [] ρ = base := rfl
theorem mkA_cons {base : Array Value} {ρ : Nat → Value} {d : Nat} {ds : List Nat} : mkA base (d :: ds) ρ = mkA (base.setIfInBounds d (ρ d)) ds ρ := rfl
attribute [irreducible] stepsS JJ mkA
end
end Sedge
end
section
/-
  Slices of whole numbers that a call makes itself: appends, two slices beside one another.
-/
set_option linter.unusedSimpArgs false
set_option linter.unusedVariables false
namespace Sedge
open Go Go.RowKit
/-- Their own blocks are not one. -/
def ApartV (u v : Value) : Prop := ∀ k, u.ownBlock = some k → v.ownBlock ≠ some k
section
variable {P : Program} {ops : Array Oper} {rest : List Oper} {o : Oper} {a : Act} {Q : Exit → Act → World → Prop}
theorem append1_v {t e e' : TypeId} {z0 : Value} (und : P.underlying t = some (.slice e)) (info : (P.info? e).map (fun i => (i.zero, i.size, i.bytes)) = some (some z0, 1, 8)) (hz0 : z0.cells.size = 1)
    {W w : World} (hW : Grew W w) {v y : Value} {xs : List Value} (hown : w.ownsRow W.heap.size e 1 v xs.length xs) (hy : y.oneCell' = true)
    (hlen : xs.length < 17592186044415) (s x : Operand) (hg : o.guard = none)
    (ho : o.op = .call { callee := .builtin .append, args := #[s, x], argTypes := #[t, t] }) (hs : a.eval s = v) {k : Nat} (hk : k = w.heap.size) (hx : a.eval x = .slice (some ⟨k, 0, none⟩) 1 1)
    (h : ∀ v' oo nn, (ext W oo nn).ownsRow W.heap.size e 1 v' (xs.length + 1) (xs ++ [y]) →
      (∀ e2 u n2 ys, w.ownsRow W.heap.size e2 1 u n2 ys → ApartV u v → (ext W oo nn).ownsRow W.heap.size e2 1 u n2 ys ∧ ApartV u v') → wpList P ops Q rest (a.put o.dst v') (ext W oo nn)) :
    wpList P ops Q (o :: rest) a (w.alloc (.cells #[y] e')) := by
  subst hk
  obtain ⟨i0, hi, hz⟩ := Option.map_eq_some_iff.1 info
  simp only [Prod.mk.injEq] at hz
  obtain ⟨hz1, hz2, hz3⟩ := hz
  have hgA : Grew w (w.alloc (.cells #[y] e')) := (Grew.refl w).alloc _
  have keep : ∀ e2 u n2 ys (w' : World), w.ownsRow W.heap.size e2 1 u n2 ys → (∀ k, u.ownBlock = some k → w'.heap[k]? = w.heap[k]?) → w'.ownsRow W.heap.size e2 1 u n2 ys := fun e2 u n2 ys w' hu hk => by
    obtain ⟨h1, h2⟩ := hu
    refine ⟨h1, ?_⟩
    rcases h2 with h2 | ⟨g, cap, cur, rfl, hB, hh, r⟩
    · exact .inl h2
    · exact .inr ⟨g, cap, cur, rfl, hB, by rw [hk g rfl]; exact hh, r⟩
  have hown' := keep _ _ _ _ (w.alloc (.cells #[y] e')) hown (fun k hk => hgA.below.block k (hown.lt k hk).2)
  refine wpList_append_own_at _ hg s x t ho W.heap.size e i0 z0 1 8 und hi hz1 hz2 hz3 hz0 (by decide) v xs.length xs hs hown' ⟨w.heap.size, 0, none⟩ 1 1 [y] hx rfl ?_ ?_ ?_ ?_ ?_ ?_
  · intro j u hj
    match j, hj with
    | 0, hj =>
      simp at hj; subst hj
      have e1 : (⟨w.heap.size, 0, none⟩ : Addr).add 0 = ⟨w.heap.size, 0, none⟩ := by simp [Addr.add]
      rw [e1, World.cell?_alloc_new]; rfl
  · intro u hu; simp at hu; subst hu; exact hy
  · simp [maxLen]; omega
  · omega
  · have := hW.below.size; simp; omega
  · intro v' w' ho2 hgr hnn hloc
    obtain ⟨oo, nn, rfl⟩ := grew_grown (hW.alloc (.cells #[y] e')) hgr (fun k hk => (hown.lt k hk).1)
    refine h v' oo nn ho2 fun e2 u n2 ys hu hap => ⟨keep _ _ _ _ _ hu fun k hk => ?_, fun k hk => ?_⟩
    · have hlt := (hu.lt k hk).2
      exact (hgr.block k (Nat.lt_of_lt_of_le hlt hgA.below.size) (fun e => hap k hk e.symm)).trans (hgA.below.block k hlt)
    · have hlt := (hu.lt k hk).2
      rcases hloc with h1 | h1
      · rw [h1]; exact hap k hk
      · rw [h1]; intro e; simp at e; omega
end
/-- The slice v of ours owns the whole numbers zs. -/
def OwnI (w : World) (B : Nat) (v : Value) (zs : List Int) : Prop := w.ownsRow B 3 1 v zs.length (zs.map (Value.int .i64))
theorem OwnI.nil (w : World) (B : Nat) : OwnI w B (.slice none 0 0) [] := ⟨by simp, .inl ⟨rfl, rfl⟩⟩
theorem OwnI.grew {w w' : World} {B : Nat} {v : Value} {zs : List Int} (h : OwnI w B v zs) (g : Grew w w') : OwnI w' B v zs := by
  obtain ⟨h0, h1⟩ := h
  refine ⟨h0, ?_⟩
  rcases h1 with h1 | ⟨gg, cap, cur, hv, hB, hh, r⟩
  · exact .inl h1
  · have hlt : gg < w.heap.size := by
      rcases Nat.lt_or_ge gg w.heap.size with h | h
      · exact h
      · rw [Array.getElem?_eq_none h] at hh; cases hh
    exact .inr ⟨gg, cap, cur, hv, hB, by rw [g.below.block gg hlt]; exact hh, r⟩
theorem OwnI.is {w : World} {B : Nat} {v : Value} {zs : List Int} (h : OwnI w B v zs) (hl : zs.length ≤ 9223372036854775807) : IS .i64 w v zs := by
  obtain ⟨_, h1⟩ := h
  rcases h1 with ⟨rfl, h1⟩ | ⟨g, cap, cur, rfl, _, hh, hn, hm, hsz, ht⟩
  · have : zs = [] := List.length_eq_zero_iff.1 h1
    subst this
    exact ⟨by simp, none, 0, rfl, fun i hi => by simp at hi⟩
  · refine ⟨hl, some ⟨g, 0, none⟩, cap, rfl, fun i hi => ⟨g, 0, rfl, ?_⟩⟩
    rw [Nat.mul_one] at ht
    have := take_getElem? (i := i) ht (by simpa using hi)
    simp only [World.cell?, hh, Nat.zero_add, Option.isSome_none, Bool.false_eq_true, if_false]
    rw [← Array.getElem?_toList, this]
    simp [List.getD_eq_getElem?_getD, hi]
end Sedge
end
section
/-
  Plain laws on the reference's digits: lists of 16 bits, what they are worth.
-/
set_option linter.unusedSimpArgs false
set_option linter.unusedVariables false
namespace Sedge
open Ieee

def dv : List Nat → Nat
  | [] => 0
  | d :: l => d + 65536 * dv l
theorem dv_append : ∀ (a b : List Nat), dv (a ++ b) = dv a + 65536 ^ a.length * dv b
  | [], b => by simp [dv]
  | d :: a, b => by
    show d + 65536 * dv (a ++ b) = d + 65536 * dv a + 65536 ^ (a.length + 1) * dv b
    rw [dv_append a b, Nat.pow_succ, Nat.mul_add, Nat.mul_comm (65536 ^ a.length) 65536, Nat.mul_assoc]; omega
def Dg (l : List Nat) : Prop := ∀ d ∈ l, d < 65536
theorem Dg.nil : Dg [] := fun d h => by cases h
theorem Dg.tail {d : Nat} {l : List Nat} (h : Dg (d :: l)) : Dg l := fun x hx => h x (List.mem_cons_of_mem _ hx)
theorem Dg.append {a b : List Nat} (h : Dg a) (k : Dg b) : Dg (a ++ b) := fun x hx => by
  rcases List.mem_append.1 hx with hx | hx
  · exact h x hx
  · exact k x hx
theorem Dg.one {d : Nat} (h : d < 65536) : Dg [d] := fun x hx => by simp at hx; omega
theorem Dg.get {l : List Nat} (h : Dg l) (i : Nat) : l.getD i 0 < 65536 := by
  rw [List.getD_eq_getElem?_getD]
  by_cases hi : i < l.length
  · rw [List.getElem?_eq_getElem hi]; exact h _ (List.getElem_mem hi)
  · rw [List.getElem?_eq_none (by omega)]; decide
theorem Dg.set {l : List Nat} (h : Dg l) (i : Nat) {x : Nat} (hx : x < 65536) : Dg (l.set i x) := fun d hd => by
  rcases List.mem_or_eq_of_mem_set hd with hd | hd
  · exact h d hd
  · omega
theorem Dg.replicate (n : Nat) : Dg (List.replicate n 0) := fun d hd => by rw [List.eq_of_mem_replicate hd]; decide
theorem Dg.dropLast {l : List Nat} (h : Dg l) : Dg l.dropLast := fun d hd => h d (List.dropLast_subset l hd)
theorem dv_lt : ∀ {l : List Nat}, Dg l → dv l < 65536 ^ l.length
  | [], _ => by simp [dv]
  | d :: l, h => by
    have h1 := dv_lt h.tail
    have h2 := h d (List.mem_cons_self ..)
    show d + 65536 * dv l < 65536 ^ (l.length + 1)
    rw [Nat.pow_succ]; omega
theorem dv_replicate : ∀ n, dv (List.replicate n 0) = 0
  | 0 => rfl
  | n + 1 => by show 0 + 65536 * dv (List.replicate n 0) = 0; rw [dv_replicate n]
theorem dv_set : ∀ {l : List Nat} {i : Nat}, i < l.length → ∀ x, dv (l.set i x) + l.getD i 0 * 65536 ^ i = dv l + x * 65536 ^ i
  | [], i, h, x => by simp at h
  | d :: l, 0, h, x => by simp [dv]; omega
  | d :: l, i + 1, h, x => by
    have := dv_set (l := l) (i := i) (by simpa using h) x
    show d + 65536 * dv (l.set i x) + l.getD i 0 * 65536 ^ (i + 1) = d + 65536 * dv l + x * 65536 ^ (i + 1)
    rw [Nat.pow_succ, ← Nat.mul_assoc, ← Nat.mul_assoc]; omega
theorem dv_get_le : ∀ (l : List Nat) (i : Nat), l.getD i 0 * 65536 ^ i ≤ dv l
  | [], i => by simp
  | d :: l, 0 => by simp [dv]
  | d :: l, i + 1 => by
    have := dv_get_le l i
    show l.getD i 0 * 65536 ^ (i + 1) ≤ d + 65536 * dv l
    rw [Nat.pow_succ, ← Nat.mul_assoc]; omega
theorem dv_pos {l : List Nat} (h : l ≠ []) (hl : l.getLast h ≠ 0) : dv l ≠ 0 := by
  intro h0
  have h1 := dv_get_le l (l.length - 1)
  rw [h0] at h1
  have hlen : 0 < l.length := List.length_pos_iff.2 h
  have e : l.getD (l.length - 1) 0 = l.getLast h := by
    rw [List.getLast_eq_getElem, List.getD_eq_getElem?_getD, List.getElem?_eq_getElem (by omega)]; rfl
  rw [e] at h1
  have : 0 < 65536 ^ (l.length - 1) := Nat.pow_pos (by decide)
  have h2 : 0 < l.getLast h * 65536 ^ (l.length - 1) := Nat.mul_pos (by omega) this
  omega
theorem dv_nil_or {l : List Nat} (h : ∀ h : l ≠ [], l.getLast h ≠ 0) (h0 : dv l = 0) : l = [] := Decidable.byContradiction fun hn => dv_pos hn (h hn) h0
theorem dv_dropLast {l : List Nat} (h : l ≠ []) (hl : l.getLast h = 0) : dv l.dropLast = dv l := by
  have := dv_append l.dropLast [l.getLast h]
  rw [List.dropLast_concat_getLast] at this
  rw [this, hl]; simp [dv]

/-- The sum of so many digits. -/
def ds (f : Nat → Nat) : Nat → Nat
  | 0 => 0
  | k + 1 => ds f k + f k * 65536 ^ k
theorem ds_congr {f g : Nat → Nat} : ∀ {n : Nat}, (∀ k, k < n → f k = g k) → ds f n = ds g n
  | 0, _ => rfl
  | n + 1, h => by
    unfold ds
    rw [ds_congr (fun k hk => h k (by omega)), h n (by omega)]
theorem ds_lt {f : Nat → Nat} (h : ∀ k, f k < 65536) : ∀ n, ds f n < 65536 ^ n
  | 0 => by simp [ds]
  | n + 1 => by
    have h1 := ds_lt h n
    have h2 := h n
    unfold ds
    rw [Nat.pow_succ]
    have : f n * 65536 ^ n ≤ 65535 * 65536 ^ n := Nat.mul_le_mul_right _ (by omega)
    omega
theorem ds_succ' (f : Nat → Nat) : ∀ n, ds f (n + 1) = f 0 + 65536 * ds (fun k => f (k + 1)) n
  | 0 => by simp [ds]
  | n + 1 => by
    have := ds_succ' f n
    show ds f (n + 1) + f (n + 1) * 65536 ^ (n + 1) = f 0 + 65536 * (ds (fun k => f (k + 1)) n + f (n + 1) * 65536 ^ n)
    rw [this, Nat.pow_succ, Nat.mul_add, Nat.mul_left_comm 65536, Nat.mul_comm 65536 (65536 ^ n)]
    omega
theorem ds_list : ∀ (l : List Nat), ds (fun k => l.getD k 0) l.length = dv l
  | [] => rfl
  | d :: l => by
    show ds _ (l.length + 1) = _
    rw [ds_succ']
    have := ds_list l
    show d + 65536 * ds (fun k => l.getD k 0) l.length = _
    rw [this]; rfl
theorem ds_zero {f : Nat → Nat} {n : Nat} (h : ∀ k, k < n → f k = 0) : ds f n = 0 := by
  rw [ds_congr h]
  clear h
  induction n with
  | zero => rfl
  | succ n ih => unfold ds; rw [ih]; simp
theorem ds_add (f : Nat → Nat) (a : Nat) : ∀ b, ds f (a + b) = ds f a + 65536 ^ a * ds (fun k => f (a + k)) b
  | 0 => by simp [ds]
  | b + 1 => by
    show ds f (a + b) + f (a + b) * 65536 ^ (a + b) = ds f a + 65536 ^ a * (ds (fun k => f (a + k)) b + f (a + b) * 65536 ^ b)
    rw [ds_add f a b, Nat.mul_add, Nat.pow_add, Nat.mul_left_comm]; omega
/-- The digit of a place. -/
def digAt (l : List Nat) (E p : Int) : Nat := if p < E ∨ E + l.length ≤ p then 0 else l.getD (p - E).toNat 0
theorem digAt_lt {l : List Nat} (h : Dg l) (E p : Int) : digAt l E p < 65536 := by
  unfold digAt; split
  · decide
  · exact h.get _
theorem ds_digAt {l : List Nat} {E F : Int} {n : Nat} (h1 : F ≤ E) (h2 : E + l.length ≤ F + n) : ds (fun k => digAt l E (F + k)) n = 65536 ^ (E - F).toNat * dv l := by
  obtain ⟨a, ha⟩ : ∃ a : Nat, a = (E - F).toNat := ⟨_, rfl⟩
  obtain ⟨c, hc⟩ : ∃ c : Nat, c = n - a - l.length := ⟨_, rfl⟩
  have en : n = a + (l.length + c) := by omega
  rw [en, ds_add, ds_add, ← ha]
  rw [ds_zero (f := fun k => digAt l E (F + k)) (n := a) (fun k hk => by unfold digAt; rw [if_pos (by omega)])]
  rw [ds_zero (n := c) (fun k hk => by show digAt l E (F + _) = 0; unfold digAt; rw [if_pos (by omega)])]
  rw [ds_congr (g := fun k => l.getD k 0) (n := l.length) (fun k hk => by
    show digAt l E (F + ((a + k : Nat) : Int)) = _
    unfold digAt; rw [if_neg (by omega)]; congr 1; omega)]
  rw [ds_list]; simp
theorem ds_digAt_nil {E F : Int} {n : Nat} : ds (fun k => digAt [] E (F + k)) n = 0 := ds_zero fun k _ => by
  unfold digAt; split <;> simp
theorem p2_pow16 (n : Nat) : ((65536 ^ n : Nat) : Rat) = p2 (16 * n) := by
  have : (65536 : Nat) ^ n = 2 ^ (16 * n) := by rw [Nat.pow_mul]
  rw [this, ← p2_nat]; congr 1
/-- What is worth the digits of places from F on. -/
theorem ds_worth {l : List Nat} {E F : Int} {n : Nat} (h : l = [] ∨ F ≤ E ∧ E + l.length ≤ F + n) : (ds (fun k => digAt l E (F + k)) n : Rat) * p2 (16 * F) = (dv l : Rat) * p2 (16 * E) := by
  rcases h with rfl | ⟨h1, h2⟩
  · rw [ds_digAt_nil]; simp [dv]
  · rw [ds_digAt h1 h2, Rat.natCast_mul, p2_pow16]
    have : p2 (16 * E) = p2 (16 * ((E - F).toNat : Nat)) * p2 (16 * F) := by rw [← p2_add]; congr 1; omega
    rw [this]; grind
/-- The highest digit that differs decides. -/
theorem ds_less {f g : Nat → Nat} (hf : ∀ k, f k < 65536) {p n : Nat} (hp : p < n) (h : f p < g p) (he : ∀ k, p < k → k < n → f k = g k) : ds f n < ds g n := by
  obtain ⟨c, rfl⟩ : ∃ c, n = p + 1 + c := ⟨n - (p + 1), by omega⟩
  rw [ds_add f (p + 1) c, ds_add g (p + 1) c, ds_congr (f := fun k => f (p + 1 + k)) (g := fun k => g (p + 1 + k)) (fun k hk => he _ (by omega) (by omega))]
  refine Nat.add_lt_add_right ?_ _
  unfold ds
  have h1 := ds_lt hf p
  have h2 : (f p + 1) * 65536 ^ p ≤ g p * 65536 ^ p := Nat.mul_le_mul_right _ h
  rw [Nat.add_mul] at h2
  omega
/-- One step of a product's row. -/
theorem mul_step {l : List Nat} {i c a b : Nat} (hi : i < l.length) :
    dv (l.set i ((c + a * b + l.getD i 0) % 65536)) + (c + a * b + l.getD i 0) / 65536 * 65536 ^ (i + 1) = dv l + c * 65536 ^ i + a * b * 65536 ^ i := by
  have h1 := dv_set hi ((c + a * b + l.getD i 0) % 65536)
  have h2 := Nat.div_add_mod (c + a * b + l.getD i 0) 65536
  generalize (c + a * b + l.getD i 0) / 65536 = q at *
  generalize (c + a * b + l.getD i 0) % 65536 = m at *
  rw [Nat.pow_succ]
  generalize 65536 ^ i = P at *
  have h3 : (65536 * q + m) * P = (c + a * b + l.getD i 0) * P := by rw [h2]
  rw [Nat.add_mul, Nat.add_mul, Nat.add_mul, Nat.mul_assoc] at h3
  rw [Nat.mul_comm P 65536, Nat.mul_left_comm q]
  omega
theorem mul_carry {c a b d : Nat} (hc : c < 65536) (ha : a < 65536) (hb : b < 65536) (hd : d < 65536) : c + a * b + d < 4294967296 ∧ (c + a * b + d) / 65536 < 65536 := by
  have : a * b ≤ 65535 * 65535 := Nat.mul_le_mul (by omega) (by omega)
  omega
/-- One step of a shift. -/
theorem shift_step {l : List Nat} {i d r : Nat} (hi : i + 1 < l.length) (hl : Dg l) (hd : d < 65536) (hr : r < 16) (h0 : l.getD i 0 < 2 ^ r) (hz : ∀ k, i < k → l.getD k 0 = 0) :
    dv ((l.set i (l.getD i 0 + d * 2 ^ r % 65536)).set (i + 1) (d * 2 ^ r / 65536)) = dv l + d * 2 ^ r * 65536 ^ i ∧ Dg ((l.set i (l.getD i 0 + d * 2 ^ r % 65536)).set (i + 1) (d * 2 ^ r / 65536)) ∧
    ((l.set i (l.getD i 0 + d * 2 ^ r % 65536)).set (i + 1) (d * 2 ^ r / 65536)).getD (i + 1) 0 < 2 ^ r ∧ ∀ k, i + 1 < k → ((l.set i (l.getD i 0 + d * 2 ^ r % 65536)).set (i + 1) (d * 2 ^ r / 65536)).getD k 0 = 0 := by
  have e : 2 ^ r * 2 ^ (16 - r) = 65536 := by rw [← Nat.pow_add, show r + (16 - r) = 16 by omega]
  have hg : 0 < 2 ^ r := Nat.two_pow_pos r
  have hh : 0 < 2 ^ (16 - r) := Nat.two_pow_pos _
  have hm : l.getD i 0 + d * 2 ^ r % 65536 < 65536 := by
    have h1 : d * 2 ^ r % 65536 = 2 ^ r * (d % 2 ^ (16 - r)) := by rw [← e, Nat.mul_comm d, Nat.mul_mod_mul_left]
    have h2 := Nat.mod_lt d hh
    have h3 : 2 ^ r * (d % 2 ^ (16 - r) + 1) ≤ 2 ^ r * 2 ^ (16 - r) := Nat.mul_le_mul_left _ h2
    rw [Nat.mul_add, e] at h3
    omega
  have hq : d * 2 ^ r / 65536 < 2 ^ r := by
    rw [Nat.div_lt_iff_lt_mul (by decide), Nat.mul_comm]
    exact Nat.mul_lt_mul_of_pos_left hd hg
  have hr2 : 2 ^ r ≤ 32768 := by
    have := Nat.pow_le_pow_right (n := 2) (by decide) (show r ≤ 15 by omega)
    omega
  refine ⟨?_, (hl.set _ hm).set _ (by omega), ?_, ?_⟩
  · have s1 := dv_set (l := l) (i := i) (by omega) (l.getD i 0 + d * 2 ^ r % 65536)
    have s2 := dv_set (l := l.set i (l.getD i 0 + d * 2 ^ r % 65536)) (i := i + 1) (by simpa using hi) (d * 2 ^ r / 65536)
    have e2 : (l.set i (l.getD i 0 + d * 2 ^ r % 65536)).getD (i + 1) 0 = 0 := by
      rw [List.getD_eq_getElem?_getD, List.getElem?_set_ne (by omega), ← List.getD_eq_getElem?_getD]
      exact hz _ (by omega)
    rw [e2] at s2
    have hdm := Nat.div_add_mod (d * 2 ^ r) 65536
    generalize d * 2 ^ r / 65536 = q at *
    generalize d * 2 ^ r % 65536 = m at *
    generalize d * 2 ^ r = T at *
    rw [Nat.pow_succ] at s2
    subst hdm
    rw [Nat.add_mul, Nat.mul_assoc, Nat.mul_left_comm]
    rw [Nat.add_mul] at s1
    rw [Nat.mul_comm (65536 ^ i) 65536, Nat.mul_left_comm q] at s2
    rw [Nat.mul_left_comm q] 
    omega
  · rw [List.getD_eq_getElem?_getD, List.getElem?_set, if_pos rfl, if_pos (by simpa using hi)]
    exact hq
  · intro k hk
    rw [List.getD_eq_getElem?_getD, List.getElem?_set_ne (by omega), List.getElem?_set_ne (by omega), ← List.getD_eq_getElem?_getD]
    exact hz _ (by omega)
end Sedge
end
section
/-
  Slices of digits: how they read; blocks of them that may be written; appends, make.
-/
set_option linter.unusedSimpArgs false
set_option linter.unusedVariables false
namespace Sedge
open Go Go.RowKit

theorem Grew.same_o {X : World} {o : Array Obj} {n n' : Nat} : Grew (Sedge.ext X o n) (Sedge.ext X o n') := ⟨#[], n', by simp⟩
theorem Grew.app_o {X : World} {o o' : Array Obj} {n n' : Nat} : Grew (Sedge.ext X o n) (Sedge.ext X (o ++ o') n') := ⟨o', n', by simp⟩
/-- The slice v reads, in w, as the digits l. -/
def NS (w : World) (v : Value) (l : List Nat) : Prop :=
  ∃ a cap, v = .slice a l.length cap ∧ l.length ≤ cap ∧ ∀ i, i < l.length → ∃ blk o, a = some ⟨blk, o, none⟩ ∧ w.cell? ⟨blk, o + i, none⟩ = some (.int .i64 (l.getD i 0 : Nat))
theorem NS.shape {w : World} {v : Value} {l : List Nat} (h : NS w v l) : ∃ a cap, v = .slice a l.length cap := by
  obtain ⟨a, cap, rfl, _⟩ := h; exact ⟨a, cap, rfl⟩
theorem NS.at {w : World} {a : Option Addr} {n cap : Nat} {l : List Nat} (h : NS w (.slice a n cap) l) : n = l.length ∧ n ≤ cap ∧ (0 < l.length → ∃ blk o, a = some ⟨blk, o, none⟩ ∧ blk < w.heap.size ∧
      ∀ i, i < l.length → w.cell? ⟨blk, o + i, none⟩ = some (.int .i64 (l.getD i 0 : Nat))) := by
  obtain ⟨a', cap', e, h0, hc⟩ := h
  cases e
  refine ⟨rfl, h0, fun hn => ?_⟩
  obtain ⟨blk, o, rfl, h1⟩ := hc 0 hn
  refine ⟨blk, o, rfl, World.block_lt_of_cell? w _ h1, fun i hi => ?_⟩
  obtain ⟨blk', o', he, h1'⟩ := hc i hi
  cases he
  exact h1'
theorem NS.open {w : World} {v : Value} {l : List Nat} (h : NS w v l) (hn : 0 < l.length) :
    ∃ blk o cap, v = .slice (some ⟨blk, o, none⟩) l.length cap ∧ blk < w.heap.size ∧ l.length ≤ cap ∧
      ∀ i, i < l.length → w.cell? ⟨blk, o + i, none⟩ = some (.int .i64 (l.getD i 0 : Nat)) := by
  obtain ⟨a, cap, rfl⟩ := h.shape
  obtain ⟨blk, o, rfl, h1, h2⟩ := h.at.2.2 hn
  exact ⟨blk, o, cap, rfl, h1, h.at.2.1, h2⟩
theorem NS.same {w w' : World} {v : Value} {l : List Nat} (h : NS w v l) (hs : ∀ a : Addr, a.block < w.heap.size → w'.cell? a = w.cell? a) : NS w' v l := by
  obtain ⟨a, cap, hv, h0, hc⟩ := h
  refine ⟨a, cap, hv, h0, fun i hi => ?_⟩
  obtain ⟨blk, o, he, h1⟩ := hc i hi
  exact ⟨blk, o, he, by rw [hs _ (World.block_lt_of_cell? w _ h1)]; exact h1⟩
theorem NS.below {w w' : World} {v : Value} {l : List Nat} (h : NS w v l) (hb : Below w.heap.size w w') : NS w' v l := h.same fun _ ha => hb.cell ha
theorem NS.grew {w w' : World} {v : Value} {l : List Nat} (h : NS w v l) (g : Grew w w') : NS w' v l := h.below g.below
theorem NS.ext {w : World} {v : Value} {l : List Nat} (h : NS w v l) (o : Array Obj) (n : Nat) : NS (ext w o n) v l := h.grew ⟨_, _, rfl⟩
theorem NS.alloc {w : World} {v : Value} {l : List Nat} (h : NS w v l) (o : Obj) : NS (w.alloc o) v l := h.grew ((Grew.refl _).alloc o)
theorem NS.nil (w : World) : NS w (.slice none 0 0) [] := ⟨none, 0, rfl, Nat.le_refl _, fun i hi => by simp at hi⟩
/-- Without the first. -/
theorem NS.tail {w : World} {blk o n cap d : Nat} {l : List Nat} (h : NS w (.slice (some ⟨blk, o, none⟩) n cap) (d :: l)) : NS w (.slice (some ⟨blk, o + 1, none⟩) (n - 1) (cap - 1)) l := by
  obtain ⟨a, c, e, h0, hc⟩ := h
  cases e
  refine ⟨_, _, rfl, by simp at h0; omega, fun i hi => ?_⟩
  obtain ⟨blk', o', he, h1⟩ := hc (i + 1) (by simp; omega)
  cases he
  exact ⟨blk, o + 1, rfl, by rw [show o + 1 + i = o + (i + 1) by omega]; exact h1⟩
theorem NS.tail' {w : World} {blk o n cap d : Nat} {l : List Nat} (h : NS w (.slice (some ⟨blk, o, none⟩) n cap) (d :: l)) : NS w (.slice (if cap = 1 then some ⟨blk, o, none⟩ else some ⟨blk, o + 1, none⟩) l.length (cap - 1)) l := by
  have hn := h.at.1
  have hc := h.at.2.1
  have e : n - 1 = l.length := by rw [hn]; simp
  have h1 := h.tail
  rw [e] at h1
  simp at hn
  by_cases h0 : cap = 1
  · rw [if_pos h0]
    have : l = [] := List.length_eq_zero_iff.1 (by omega)
    subst this
    exact ⟨_, _, rfl, Nat.zero_le _, fun i hi => by simp at hi⟩
  · rw [if_neg h0]; exact h1
theorem NS.dropLast {w : World} {a : Option Addr} {n cap : Nat} {l : List Nat} (h : NS w (.slice a n cap) l) : NS w (.slice a (n - 1) cap) l.dropLast := by
  obtain ⟨a', c, e, h0, hc⟩ := h
  cases e
  refine ⟨a, cap, by simp, by simp; omega, fun i hi => ?_⟩
  have hi' : i < l.length - 1 := by simpa using hi
  obtain ⟨blk', o', he, h1⟩ := hc i (by omega)
  refine ⟨blk', o', he, ?_⟩
  rw [h1]
  congr 2
  rw [List.getD_eq_getElem?_getD, List.getD_eq_getElem?_getD, List.getElem?_dropLast, if_pos hi']

/-- The cells of digits. -/
def ia (l : List Nat) : Array Value := (l.map fun d : Nat => Value.int .i64 d).toArray
@[simp] theorem ia_size (l : List Nat) : (ia l).size = l.length := by simp [ia]
theorem ia_get (l : List Nat) {i : Nat} (h : i < l.length) : (ia l)[i]? = some (.int .i64 (l.getD i 0 : Nat)) := by
  simp [ia, List.getD_eq_getElem?_getD, h]
theorem ia_set (l : List Nat) (i d : Nat) : (ia l).setIfInBounds i (.int .i64 (d : Nat)) = ia (l.set i d) := by
  unfold ia; rw [List.setIfInBounds_toArray, List.map_set]
/-- Block b holds the digits l and no more; it may be written. -/
def IB (w : World) (b : Nat) (l : List Nat) : Prop := ∃ e, w.heap[b]? = some (.cells (ia l) e (0, 0))
section
variable {w : World} {b : Nat} {l : List Nat}
theorem IB.lt (h : IB w b l) : b < w.heap.size := by
  obtain ⟨e, h1⟩ := h
  exact (Array.getElem?_eq_some_iff.1 h1).1
theorem IB.notFrozen (h : IB w b l) (i : Nat) : w.frozen? ⟨b, i, none⟩ = false := by
  obtain ⟨e, h1⟩ := h
  unfold World.frozen?
  simp only [h1]
  simp
theorem IB.self (h : IB w b l) : upd w b (ia l) = w := by
  obtain ⟨e, h1⟩ := h
  unfold upd
  cases w with | mk hp tp dr os' out => ?_
  simp only [World.mk.injEq, true_and, and_true] at *
  apply Array.ext_getElem?
  intro i
  rw [Array.getElem?_modify]
  split
  · rename_i he; subst he; rw [h1]; rfl
  · rfl
theorem IB.cells (h : IB w b l) (cs : Array Value) (i : Nat) : (upd w b cs).cell? ⟨b, i, none⟩ = cs[i]? := by
  obtain ⟨e, h1⟩ := h
  unfold World.cell?
  simp only [block_upd h1]
  simp
theorem IB.get (h : IB w b l) {l' : List Nat} {i : Nat} (hi : i < l'.length) : (upd w b (ia l')).cell? ⟨b, i, none⟩ = some (.int .i64 (l'.getD i 0 : Nat)) := by rw [h.cells, ia_get _ hi]
theorem IB.mk' (h : IB w b l) (l' : List Nat) (o : Array Obj) (n : Nat) : IB (Sedge.ext (upd w b (ia l')) o n) b l' := by
  have hlt := h.lt
  obtain ⟨e, h1⟩ := h
  exact ⟨e, by rw [block_ext (by simpa using hlt), block_upd h1]⟩
theorem IB.ns (h : IB w b l) {cap : Nat} (hc : l.length ≤ cap) : NS w (.slice (some ⟨b, 0, none⟩) l.length cap) l := by
  obtain ⟨e, h1⟩ := h
  refine ⟨_, cap, rfl, hc, fun i hi => ⟨b, 0, rfl, ?_⟩⟩
  unfold World.cell?
  simp only [h1, Nat.zero_add]
  simpa using ia_get l hi
theorem IB.same {w' : World} (h : IB w b l) (hs : w'.heap[b]? = w.heap[b]?) : IB w' b l := by
  obtain ⟨e, h1⟩ := h
  exact ⟨e, hs.trans h1⟩
theorem IB.grew {w' : World} (h : IB w b l) (g : Grew w w') : IB w' b l := h.same (g.below.block b h.lt)
theorem IB.ext (h : IB w b l) (o : Array Obj) (n : Nat) : IB (Sedge.ext w o n) b l := h.grew ⟨_, _, rfl⟩
end
theorem NS.upd_ne {w : World} {v : Value} {l : List Nat} (h : NS w v l) {b : Nat} (hn : NotIn b v) (cs : Array Value) : NS (upd w b cs) v l := by
  obtain ⟨a, cap, hv, h0, hc⟩ := h
  refine ⟨a, cap, hv, h0, fun i hi => ?_⟩
  obtain ⟨blk, o, he, h1⟩ := hc i hi
  refine ⟨blk, o, he, ?_⟩
  rw [cell_upd_ne (by exact hn ⟨blk, o, none⟩ _ _ (by rw [hv, he]))]
  exact h1
/-- A slice that is there in w is none of a block that is not. -/
theorem NS.notIn {w : World} {v : Value} {l : List Nat} (h : NS w v l) (hl : l ≠ []) {b : Nat} (hb : w.heap.size ≤ b) : NotIn b v := by
  intro a n c e
  obtain ⟨blk, o, cap, e2, hlt, _⟩ := h.open (List.length_pos_iff.2 hl)
  rw [e] at e2
  have e3 := (Value.slice.inj e2).1
  cases e3
  show blk ≠ b
  omega

/-- The slice v of ours owns the digits l. -/
def OwnN (w : World) (B : Nat) (v : Value) (l : List Nat) : Prop := w.ownsRow B 3 1 v l.length (l.map fun d : Nat => Value.int .i64 d)
theorem OwnN.nil (w : World) (B : Nat) : OwnN w B (.slice none 0 0) [] := ⟨by simp, .inl ⟨rfl, rfl⟩⟩
theorem OwnN.grew {w w' : World} {B : Nat} {v : Value} {l : List Nat} (h : OwnN w B v l) (g : Grew w w') : OwnN w' B v l := by
  obtain ⟨h0, h1⟩ := h
  refine ⟨h0, ?_⟩
  rcases h1 with h1 | ⟨gg, cap, cur, hv, hB, hh, r⟩
  · exact .inl h1
  · have hlt : gg < w.heap.size := by
      rcases Nat.lt_or_ge gg w.heap.size with h | h
      · exact h
      · rw [Array.getElem?_eq_none h] at hh; cases hh
    exact .inr ⟨gg, cap, cur, hv, hB, by rw [g.below.block gg hlt]; exact hh, r⟩
theorem OwnN.ns {w : World} {B : Nat} {v : Value} {l : List Nat} (h : OwnN w B v l) : NS w v l := by
  obtain ⟨_, h1⟩ := h
  rcases h1 with ⟨rfl, h1⟩ | ⟨g, cap, cur, rfl, _, hh, hn, hm, hsz, ht⟩
  · have : l = [] := List.length_eq_zero_iff.1 h1
    subst this
    exact NS.nil w
  · refine ⟨some ⟨g, 0, none⟩, cap, rfl, hn, fun i hi => ⟨g, 0, rfl, ?_⟩⟩
    rw [Nat.mul_one] at ht
    have := take_getElem? (i := i) ht (by simpa using hi)
    simp only [World.cell?, hh, Nat.zero_add, Option.isSome_none, Bool.false_eq_true, if_false]
    rw [← Array.getElem?_toList, this]
    simp [List.getD_eq_getElem?_getD, hi]
theorem OwnN.block {w : World} {B : Nat} {v : Value} {l : List Nat} (h : OwnN w B v l) : ∀ k, v.ownBlock = some k → B ≤ k := by
  obtain ⟨_, h1⟩ := h
  intro k hk
  rcases h1 with ⟨rfl, _⟩ | ⟨g, cap, cur, rfl, hB, _⟩
  · simp [Value.ownBlock] at hk
  · simp [Value.ownBlock] at hk; omega
section
variable {P : Program} {ops : Array Oper} {rest : List Oper} {o : Oper} {a : Act} {Q : Exit → Act → World → Prop}
theorem append1_n {t e' : TypeId} {z0 : Value} (und : P.underlying t = some (.slice 3)) (info : (P.info? 3).map (fun i => (i.zero, i.size, i.bytes)) = some (some z0, 1, 8)) (hz0 : z0.cells.size = 1)
    {W w : World} (hW : Grew W w) {v : Value} {l : List Nat} (hown : OwnN w W.heap.size v l) {d : Nat} {di : Int} (hd : di = (d : Nat))
    (hlen : l.length < 17592186044415) (s x : Operand) (hg : o.guard = none)
    (ho : o.op = .call { callee := .builtin .append, args := #[s, x], argTypes := #[t, t] }) (hs : a.eval s = v) {k : Nat} (hk : k = w.heap.size) (hx : a.eval x = .slice (some ⟨k, 0, none⟩) 1 1)
    (h : ∀ v' oo nn, OwnN (ext W oo nn) W.heap.size v' (l ++ [d]) → wpList P ops Q rest (a.put o.dst v') (ext W oo nn)) :
    wpList P ops Q (o :: rest) a (w.alloc (.cells #[.int .i64 di] e')) := by
  subst hd
  refine append1_v und info hz0 hW (xs := l.map fun d : Nat => Value.int .i64 d) (by simpa [OwnN] using hown) rfl (by simpa using hlen) s x hg ho hs hk hx ?_
  intro v' oo nn h1 _
  exact h v' oo nn (by simpa [OwnN] using h1)
/-- 'make([]int, n)'. -/
theorem make_n {t : TypeId} (und : P.underlying t = some (.slice 3)) (info : (P.info? 3).map (fun i => (i.zero, i.size, i.bytes)) = some (some (.int .i64 0), 1, 8)) {W w : World} (hW : Grew W w) (x c : Operand) (hg : o.guard = none) (hop : o.op = Op.makeSlice t x c) (n : Nat) {L : Int} (hL : L = n) (hl : a.eval x = .int .i64 L) (hc : a.eval c = .int .i64 L)
    (hn : n ≤ 17592186044415)
    (h : ∀ oo nn k, W.heap.size ≤ k → IB (ext W oo nn) k (List.replicate n 0) → wpList P ops Q rest (a.put o.dst (.slice (some ⟨k, 0, none⟩) n n)) (ext W oo nn)) :
    wpList P ops Q (o :: rest) a w := by
  obtain ⟨i0, hi, hz⟩ := Option.map_eq_some_iff.1 info
  simp only [Prod.mk.injEq] at hz
  obtain ⟨hz0, hz1, hz2⟩ := hz
  refine wpList_make_full w hg x c t hop W.heap.size 3 i0 (.int .i64 0) 1 und hi hz0 hz1 .i64 .i64 L L n hl hc hL hL (by rw [hz2]; omega) (by simp [maxLen]; omega) hW.below.size ?_
  intro w' ho hgr
  obtain ⟨oo, nn, rfl⟩ := grew_grown hW hgr (fun k hk => by cases hk)
  refine h oo nn _ hW.below.size ?_
  obtain ⟨_, h1⟩ := ho
  rcases h1 with ⟨h1, _⟩ | ⟨g, cap, cur, he, _, hh, _, _, hsz, ht⟩
  · cases h1
  · cases he
    refine ⟨3, ?_⟩
    rw [hh]
    congr 2
    apply Array.toList_inj.1
    have e0 : cur.toList.length = n * 1 := by simpa using hsz
    rw [List.take_of_length_le (by omega)] at ht
    rw [ht]
    apply List.ext_getElem?
    intro k
    simp [madeCells, Value.cells, Nat.mod_one, ia]
    by_cases hk : k < n <;> simp [hk]
end
end Sedge
end
