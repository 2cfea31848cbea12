/-
  Texts laid one behind the other (a claim has at most 60 files): Shf1, Clone, Scale1, LikeP, LawLike, Head.
-/
import Derived.Deep.CutBlock
import Derived.Deep.DeepCutAuto
import Derived.Test.YtcmggfpcbijcjaaRows
import Derived.ProofKit
import Derived.Test.YtcmggfpcbijcjaaQEquilLike1
import Derived.Test.YtcmggfpcbijcjaaQEquilLike2
import Derived.Test.YtcmggfpcbijcjaaQEquilLike3
import Derived.Test.YtcmggfpcbijcjaaQEquilLike4
import Derived.Test.YtcmggfpcbijcjaaQEquilLike5
import Derived.Test.YtcmggfpcbijcjaaQEquilLike6
import Derived.Test.YtcmggfpcbijcjaaQEquilLike7
import Derived.Test.YtcmggfpcbijcjaaQEquilLike8
section
/-
  Contracts: ger.each of ger.Shift's closure; ger.held; ger.Shift.
-/
set_option linter.unusedSimpArgs false
set_option linter.unusedVariables false
open Go Go.RowKit Sedge
namespace Go.Proofs.Ytcmggfpcbijcjaa
/-- What a closure of ger.each does at a place. -/
def DoesAt2 (w : World) (m : MatM) (g : Nat) (q1 q2 : Value) (F : Nat → Nat → Nat → Nat) : Prop :=
  ∀ w' L s, But w [g] w' → FW w' g L → Hold m.place m.rows.toNat m.cols.toNat m.ws L s → ∀ i j : Nat, (i : Int) < m.rows → (j : Int) < m.cols →
    Calls Try.prog 203 #[.int .i64 i, .int .i64 j, .pointer (some ⟨g, (m.off + j * m.ld + i).toNat, none⟩), q1, q2] w' (fun e w2 => e = .returned (.tuple #[]) ∧ Wrote w' w2 g (L.set (m.place i j) (F i j (s i j))))
set_option maxRecDepth 100000 in
set_option maxHeartbeats 2000000 in
/-- ger.each. -/
theorem each2_any (m : MatM) (g ca : Nat) (q1 q2 : Value) (F : Nat → Nat → Nat → Nat) (w : World) (hF : FW w g m.ws) (hm : m.good = true) (hwm : m.wf) (hlm : m.ws.length ≤ 1000000) (hr : m.rows ≤ 1000) (hc : m.cols ≤ 1000)
    (hdo : DoesAt2 w m g q1 q2 F) :
   Calls Try.prog 138 #[.agg #[.slice (some ⟨g, 0, none⟩) m.ws.length ca, .int .i64 m.off, .int .i64 m.rows, .int .i64 m.cols, .int .i64 m.ld], .func (.func 203) #[] #[q1, q2]] w
     (fun e w' => e = .returned (.tuple #[]) ∧ But w [g] w' ∧ ∃ L, FW w' g L ∧ Hold m.place m.rows.toNat m.cols.toNat m.ws L (fun i j => F i j (m.num i j))) := by
  have hn := MatM.good_n hm
  have hltg := hF.lt
  have hpl := MatM.places hm
  have Hm := hid hm
  have hcl : ∀ w', FS w' (.slice (some ⟨g, 0, none⟩) m.ws.length ca) m.ws → True := fun _ _ => trivial
  have hcolA : ∀ (j : Nat) (L : List Nat) w', L.length = m.ws.length → FW w' g L → (j : Int) < m.cols → 0 < m.rows → Calls Try.prog 149 #[.agg #[.slice (some ⟨g, 0, none⟩) m.ws.length ca, .int .i64 m.off, .int .i64 m.rows, .int .i64 m.cols, .int .i64 m.ld], .int .i64 j] w'
      (fun e w2 => e = .returned (.agg #[.slice (some ⟨g, 0, none⟩) m.ws.length ca, .int .i64 (m.off + j * m.ld), .int .i64 m.rows, .int .i64 1]) ∧ ∃ o n, w2 = ext w' o n) := fun j L w' hl h hj h0 => by
    have h1 := h.fs (by omega) ca
    rw [hl] at h1
    have := col_any (withL m L) (.slice (some ⟨g, 0, none⟩) m.ws.length ca) j w' h1 (by rw [withL_good hl]; exact hm) hwm hj
    have e : (colV (withL m L) j).off = m.off + j * m.ld := by unfold colV withL; simp [h0]
    rw [e] at this
    exact this
  by_cases h0 : m.rows = 0
  · have d0 : (m.rows == 0) = true := by simpa using h0
    have hh : Hold m.place m.rows.toNat m.cols.toNat m.ws m.ws (fun i j => F i j (m.num i j)) := ⟨rfl, fun i j hi hj => by omega, fun _ _ => rfl⟩
    clear hdo hm hwm
    go_enter Try.func138, Try.ntmps138
    refine seq_stop ?_
    go_wp2
    refine stop_go (fun W hW => ?_)
    have s1 : w.heap.size < W.heap.size := by rw [hW]; simp only [World.size_alloc]; omega
    have b1 : ∀ i, W.cell? ⟨w.heap.size, i, none⟩ = (#[.slice (some ⟨g, 0, none⟩) m.ws.length ca, .int .i64 m.off, .int .i64 m.rows, .int .i64 m.cols, .int .i64 m.ld] : Array Value)[i]? := by intro i; rw [hW]; go_simp
    have g0 : Grew w W := by rw [hW]; exact (Grew.refl _).alloc _
    clear hW
    go_wp2
    refine bodyPost_ret (v := .tuple #[]) (by simp [results, Try.results138, go_sem, *]) rfl ?_
    exact ⟨rfl, (But.refl w [g]).grew (by (show Grew _ _; repeat (first | (with_reducible exact Grew.refl _) | (with_reducible assumption) | (with_reducible exact Grew.same_o) | (with_reducible exact Grew.app_o) | (with_reducible refine Grew.ext ?_ _ _) | (with_reducible refine Grew.alloc ?_ _) | ((with_reducible refine Grew.setCell ?_ ?_ _); rotate_left; (focus (dsimp only; first | omega | (simp only [size_ext, World.size_alloc, Array.size_append]; omega)))) | (with_reducible refine Grew.drewN ?_ _) | (with_reducible refine Grew.drew ?_)))), m.ws, hF.grew (by (show Grew _ _; repeat (first | (with_reducible exact Grew.refl _) | (with_reducible assumption) | (with_reducible exact Grew.same_o) | (with_reducible exact Grew.app_o) | (with_reducible refine Grew.ext ?_ _ _) | (with_reducible refine Grew.alloc ?_ _) | ((with_reducible refine Grew.setCell ?_ ?_ _); rotate_left; (focus (dsimp only; first | omega | (simp only [size_ext, World.size_alloc, Array.size_append]; omega)))) | (with_reducible refine Grew.drewN ?_ _) | (with_reducible refine Grew.drew ?_)))), hh⟩
  · have d0 : (m.rows == 0) = false := by simpa using h0
    have h1 : 0 < m.rows := by omega
    clear hm hwm
    go_enter Try.func138, Try.ntmps138
    refine seq_stop ?_
    go_wp2
    refine stop_go (fun W hW => ?_)
    have s1 : w.heap.size < W.heap.size := by rw [hW]; simp only [World.size_alloc]; omega
    have b1 : ∀ i, W.cell? ⟨w.heap.size, i, none⟩ = (#[.slice (some ⟨g, 0, none⟩) m.ws.length ca, .int .i64 m.off, .int .i64 m.rows, .int .i64 m.cols, .int .i64 m.ld] : Array Value)[i]? := by intro i; rw [hW]; go_simp
    have g0 : Grew w W := by rw [hW]; exact (Grew.refl _).alloc _
    clear hW
    have zW := g0.below.size
    have bw : ∀ w', But W [g] w' → But w [g] w' := fun w' h => ((But.refl w [g]).grew g0).trans h (fun _ hb => .inl hb)
    have hFW : FW W g m.ws := hF.grew g0
    have cU : ∀ w', But W [g] w' → ∀ i, w'.cell? ⟨w.heap.size, i, none⟩ = (#[.slice (some ⟨g, 0, none⟩) m.ws.length ca, .int .i64 m.off, .int .i64 m.rows, .int .i64 m.cols, .int .i64 m.ld] : Array Value)[i]? := fun w' h i => (h.cell s1 (by simp; omega)).trans (b1 i)
    go_wp2
    go_loopw [12] (fun c wr => ∃ (j : Nat) (L : List Nat), (j : Int) ≤ m.cols ∧ c = .int .i64 j ∧ But W [g] wr ∧ FW wr g L ∧ Hold m.place m.rows.toNat m.cols.toNat m.ws L (stepF F m.num j 0)) (fun c _ => (m.cols - intOf c).toNat)
    case atStart => exact ⟨0, m.ws, hn.2.1, rfl, But.refl _ _, hFW, MatM.hold.congr fun i j _ _ => by simp [stepF]⟩
    case round =>
      obtain ⟨j, L, hj, rfl, hB, hL, hH⟩ := hrel
      have tT := cU _ hB
      have zB := hB.size
      have kT : w.heap.size < wr.heap.size := by omega
      by_cases hlt : (j : Int) < m.cols
      · have hlt' := hid hlt
        have hcj := fun w' (h : FW w' g L) => hcolA j L w' hH.len h hlt h1
        go_wp2_with (first | (go_at_call 149; ((with_reducible refine (hcj _ hL).mono ?_); rintro e w1 ⟨rfl, oc, nc, rfl⟩)))
        refine name_any (fun V hV => ?_)
        have gV : Grew wr V := by rw [← hV]; (show Grew _ _; repeat (first | (with_reducible exact Grew.refl _) | (with_reducible assumption) | (with_reducible exact Grew.same_o) | (with_reducible exact Grew.app_o) | (with_reducible refine Grew.ext ?_ _ _) | (with_reducible refine Grew.alloc ?_ _) | ((with_reducible refine Grew.setCell ?_ ?_ _); rotate_left; (focus (dsimp only; first | omega | (simp only [size_ext, World.size_alloc, Array.size_append]; omega)))) | (with_reducible refine Grew.drewN ?_ _) | (with_reducible refine Grew.drew ?_)))
        have BV : But W [g] V := hB.grew gV
        have cT : ∀ i, V.cell? ⟨wr.heap.size + oc.size, i, none⟩ = (#[.slice (some ⟨g, 0, none⟩) m.ws.length ca, .int .i64 (m.off + j * m.ld), .int .i64 m.rows, .int .i64 1] : Array Value)[i]? := by subst hV; intro i; go_simp
        have kV : wr.heap.size + oc.size < V.heap.size := by rw [← hV]; simp only [World.size_alloc, size_ext]; omega
        obtain ⟨T, hT⟩ : ∃ T, wr.heap.size + oc.size = T := ⟨_, rfl⟩
        have zT : wr.heap.size ≤ T := by omega
        rw [hT] at cT kV
        simp only [hT]
        have ltg2 := hL.lt
        have cV : ∀ w', But V [g] w' → ∀ i, w'.cell? ⟨T, i, none⟩ = (#[.slice (some ⟨g, 0, none⟩) m.ws.length ca, .int .i64 (m.off + j * m.ld), .int .i64 m.rows, .int .i64 1] : Array Value)[i]? := fun w' h i => (h.cell kV (by simp; omega)).trans (cT i)
        have bV : ∀ w', But V [g] w' → But W [g] w' := fun w' h => BV.trans h (fun _ hb => .inl hb)
        have hLV : FW V g L := hL.grew gV
        clear hV hT cT
        go_wp2
        go_loopw [20] (fun c wr => ∃ (i : Nat) (L : List Nat), (i : Int) ≤ m.rows ∧ c = .int .i64 i ∧ But V [g] wr ∧ FW wr g L ∧ Hold m.place m.rows.toNat m.cols.toNat m.ws L (stepF F m.num j i)) (fun c _ => (m.rows - intOf c).toNat)
        case atStart => exact ⟨0, L, by omega, rfl, But.refl _ _, hLV, hH⟩
        case round =>
          obtain ⟨i, L2, hi, rfl, hB2, hL2, hH2⟩ := hrel
          have tV := cV _ hB2
          have zB2 := hB2.size
          have kT2 : T < wr.heap.size := by omega
          by_cases hli : (i : Int) < m.rows
          · have hp := MatM.good_place Hm.out hli hlt'.out
            have r1 : IntKind.i64.wrap (m.off + j * m.ld + i) = m.off + j * m.ld + i := IntWalk.i64_in _ (by omega)
            have e1 : 0 ≤ m.off + j * m.ld + i := by omega
            have e2 : m.off + j * m.ld + i < m.ws.length := by omega
            have hcall := hdo wr L2 _ (bw _ (bV _ hB2)) hL2 hH2 i j hli hlt'.out
            go_wp2_with (first | (go_at_call 203; ((with_reducible refine (hcall).mono ?_); rintro e w1 ⟨rfl, hw1⟩)))
            go_roundw
            case rel =>
              refine ⟨i + 1, _, by omega, by go_num, hB2.wrote hw1 (.inl (by simp)), hw1.fw hL2, (hH2.set hpl (by omega) (by have := hlt'.out; omega)).congr fun r c hr hc => ?_⟩
              unfold stepF
              by_cases hrc : r = i ∧ c = j
              · obtain ⟨rfl, rfl⟩ := hrc
                simp
              · rw [if_neg hrc]
                by_cases h2 : c < j ∨ (c = j ∧ r < i)
                · rw [if_pos h2, if_pos (by omega)]
                · rw [if_neg h2, if_neg (by omega)]
            case measure => simp [intOf]; omega
          · have e : i = m.rows.toNat := by omega
            go_wp2
            go_roundw
            case rel =>
              refine ⟨j + 1, L2, by have := hlt'.out; omega, by go_num, bV _ hB2, hL2, hH2.congr fun r c hr hc => ?_⟩
              unfold stepF
              by_cases h2 : c < j ∨ (c = j ∧ r < i)
              · rw [if_pos h2, if_pos (by omega)]
              · rw [if_neg h2, if_neg (by omega)]
            case measure => (have := hlt'.out; simp [intOf]; omega)
      · go_wp2
        go_end0
        refine ⟨rfl, bw _ hB, L, hL, hH.congr fun r c hr hc => ?_⟩
        unfold stepF
        rw [if_pos (by omega)]
theorem Box.but' {w w' : World} {G : List Nat} {p : Nat} {cs : Array Value} (h : Box w p cs) (hb : But w G w') (hn : p ∉ G) : Box w' p cs := by
  have hl := h.lt
  obtain ⟨e, he⟩ := h
  exact ⟨e, (hb.block p hl hn).trans he⟩
/-- An exponent that counts. -/
def heldZ (k : Int) : Int := max (min k 1073741824) (-1073741824)
theorem heldZ_in (k : Int) : -1073741824 ≤ heldZ k ∧ heldZ k ≤ 1073741824 := by unfold heldZ; omega
set_option maxRecDepth 100000 in
/-- ger.held. -/
theorem held_any (k : Int) (w : World) : Calls Try.prog 204 #[.int .i64 k] w (fun e w' => e = .returned (.int .i64 (heldZ k)) ∧ ∃ o n, w' = ext w o n) := by
  obtain ⟨H, hH⟩ : ∃ H, H = heldZ k := ⟨_, rfl⟩
  rw [← hH]
  unfold heldZ at hH
  have HH := hid hH
  clear hH
  go_enter Try.func204, Try.ntmps204
  go_wp2
  all_goals go_ret
  all_goals refine ⟨ret_int ?_, by (show Grew _ _; repeat (first | (with_reducible exact Grew.refl _) | (with_reducible assumption) | (with_reducible exact Grew.same_o) | (with_reducible exact Grew.app_o) | (with_reducible refine Grew.ext ?_ _ _) | (with_reducible refine Grew.alloc ?_ _) | ((with_reducible refine Grew.setCell ?_ ?_ _); rotate_left; (focus (dsimp only; first | omega | (simp only [size_ext, World.size_alloc, Array.size_append]; omega)))) | (with_reducible refine Grew.drewN ?_ _) | (with_reducible refine Grew.drew ?_)))⟩
  all_goals rw [HH.out]
  all_goals first | omega | (split at * <;> omega)
/-- The shifted number. -/
def shF (rs cs : List Int) (i j x : Nat) : Nat := fscale x (heldZ (heldZ (rs.getD i 0) + heldZ (cs.getD j 0)))
set_option maxRecDepth 100000 in
set_option maxHeartbeats 2000000 in
/-- ger.Shift's closure. -/
theorem shcl_any (i j b x g o p4 p5 : Nat) (VR VC : Value) (rs cs : List Int) (L : List Nat) (w : World) (hF : FW w g L) (ho : o < L.length) (hx : x = L.getD o 0) (hR : IS .i64 w VR rs) (hC : IS .i64 w VC cs) (h4 : ∀ k, w.cell? ⟨p4, k, none⟩ = (#[VR] : Array Value)[k]?) (h5 : ∀ k, w.cell? ⟨p5, k, none⟩ = (#[VC] : Array Value)[k]?) (k4 : p4 < w.heap.size) (k5 : p5 < w.heap.size) (hi : i < rs.length) (hj : j < cs.length) :
    Calls Try.prog 203 #[.int .i64 i, .int .i64 j, .pointer (some ⟨g, o, none⟩), .pointer (some ⟨p4, 0, none⟩), .pointer (some ⟨p5, 0, none⟩)] w (fun e w' => e = .returned (.tuple #[]) ∧ Wrote w w' g (L.set o (shF rs cs i j x))) := by
  obtain ⟨aR, cR, rfl⟩ := hR.shape
  obtain ⟨aC, cC, rfl⟩ := hC.shape
  obtain ⟨bR, oR, e1, kR, hcR⟩ := hR.at.2 (by omega)
  obtain ⟨bC, oC, e2, kC, hcC⟩ := hC.at.2 (by omega)
  subst e1 e2
  have hr := hcR i hi
  have hc := hcC j hj
  unfold shF
  obtain ⟨r, hrr⟩ : ∃ r, r = rs.getD i 0 := ⟨_, rfl⟩
  obtain ⟨c, hcc⟩ : ∃ c, c = cs.getD j 0 := ⟨_, rfl⟩
  rw [← hrr] at hr ⊢
  rw [← hcc] at hc ⊢
  obtain ⟨q, hq1, hq2⟩ := hF.get ho
  rw [← hx] at hq2
  have hlt := hF.lt
  have fz := hF.notFrozen
  have i1 := heldZ_in r
  have i2 := heldZ_in c
  have H1 := fun w' => held_any r w'
  have H2 := fun w' => held_any c w'
  obtain ⟨A, hA⟩ : ∃ A, A = heldZ r := ⟨_, rfl⟩
  obtain ⟨B, hB⟩ : ∃ B, B = heldZ c := ⟨_, rfl⟩
  simp only [← hA] at H1 i1 ⊢
  simp only [← hB] at H2 i2 ⊢
  have rw1 : IntKind.i64.wrap (A + B) = A + B := IntWalk.i64_in _ (by omega)
  have H3 := fun w' => held_any (A + B) w'
  obtain ⟨E, hE⟩ : ∃ E, E = heldZ (A + B) := ⟨_, rfl⟩
  simp only [← hE] at H3 ⊢
  have HS := fun w' => nscale_any q x E w' hq2
  have HF := hid hF
  clear hF hcR hcC hx hR hC hrr hcc hA hB hE
  go_enter Try.func203, Try.ntmps203
  go_upto_region 0 with fail
  refine wp_region_R (Grew w) [18] [(3,0), (3,1), (3,2), (0,3), (0,4), (3,5), (3,6), (0,7), (0,9), (3,10), (3,11), (0,12), (1,8), (1,13), (3,14), (1,15), (1,16), (3,17), (2,18)] (by kernel_rfl) (by kernel_rfl) (fun _ _ _ _ h _ => h) (by first | exact ⟨_, _, ext_drew⟩ | exact ⟨_, _, drew_ext0⟩ | (show Grew _ _; repeat (first | (with_reducible exact Grew.refl _) | (with_reducible assumption) | (with_reducible exact Grew.same_o) | (with_reducible exact Grew.app_o) | (with_reducible refine Grew.ext ?_ _ _) | (with_reducible refine Grew.alloc ?_ _) | ((with_reducible refine Grew.setCell ?_ ?_ _); rotate_left; (focus (dsimp only; first | omega | (simp only [size_ext, World.size_alloc, Array.size_append]; omega)))) | (with_reducible refine Grew.drewN ?_ _) | (with_reducible refine Grew.drew ?_)))) ?_
  go_wp2_with (first | ((with_reducible refine wpR_id ?_); first | (refine wpR_take (v := ?_) rfl rfl ?_ ?_; rotate_left; (focus (rintro w' ⟨o', n', rfl⟩; go_simp; try with_reducible rfl)); simp only [Act.put, List.setIfInBounds_toArray, List.set_cons_zero, List.set_cons_succ]) | (refine wpR_pure (v := ?_) rfl rfl ?_ ?_; rotate_left; (focus (intro w'; go_simp; try with_reducible rfl)); simp only [Act.put, List.setIfInBounds_toArray, List.set_cons_zero, List.set_cons_succ]) | (refine wpR_takeG (v := ?_) rfl rfl rfl rfl rfl ?_ ?_; rotate_left; (focus (rintro w' ⟨o', n', rfl⟩; go_simp; try with_reducible rfl)); simp only [Act.put, List.setIfInBounds_toArray, List.set_cons_zero, List.set_cons_succ]) | (refine wpR_skip rfl rfl rfl rfl rfl rfl ?_; simp only [Act.put, List.setIfInBounds_toArray, List.set_cons_zero, List.set_cons_succ]) | (refine wpR_skipU rfl rfl rfl rfl rfl ?_; simp only [Act.put, List.setIfInBounds_toArray, List.set_cons_zero, List.set_cons_succ]) | (refine wpR_do rfl rfl (fun K hK => ?_)) | (refine wpR_doG rfl rfl rfl rfl rfl (fun K hK => ?_)) | (refine wpR_last rfl rfl (fun K hK => ?_)) | (refine wpR_nil ?_)) | ((with_reducible refine wpR_go ?_ ?_); (focus (show Grew _ _; repeat (first | (with_reducible exact Grew.refl _) | (with_reducible assumption) | (with_reducible exact Grew.same_o) | (with_reducible exact Grew.app_o) | (with_reducible refine Grew.ext ?_ _ _) | (with_reducible refine Grew.alloc ?_ _) | ((with_reducible refine Grew.setCell ?_ ?_ _); rotate_left; (focus (dsimp only; first | omega | (simp only [size_ext, World.size_alloc, Array.size_append]; omega)))) | (with_reducible refine Grew.drewN ?_ _) | (with_reducible refine Grew.drew ?_))))) | ((with_reducible refine upon_id ?_); refine upon_fop rfl (by assumption) (by assumption) ?_; intro rr nn hr) | (go_at_call 204; ((with_reducible refine (H1 _).mono ?_); rintro e w1 ⟨rfl, o1, n1, rfl⟩)) | (go_at_call 204; ((with_reducible refine (H2 _).mono ?_); rintro e w1 ⟨rfl, o1, n1, rfl⟩)) | (go_at_call 204; ((with_reducible refine (H3 _).mono ?_); rintro e w1 ⟨rfl, o1, n1, rfl⟩)) | (go_at_call 162; ((with_reducible refine (HS _).mono ?_); rintro e w1 ⟨r1, rfl, hr1, o1, n1, rfl⟩)))
  go_end0
  exact ⟨rfl, (HF.out.wrote hr1).grew_r (by (show Grew _ _; (try simp only [← Array.append_assoc]); repeat (first | (with_reducible exact Grew.same_o) | (with_reducible exact Grew.refl _) | (with_reducible assumption) | (with_reducible refine Grew.alloc ?_ _) | (with_reducible refine Grew.app_r ?_) | ((with_reducible refine Grew.setCell ?_ ?_ _); rotate_left; (focus (dsimp only; first | omega | (simp only [size_ext, World.size_alloc, Array.size_append]; omega)))) | (with_reducible refine Grew.ext ?_ _ _) | (with_reducible refine Grew.drewN ?_ _) | (with_reducible refine Grew.drew ?_))))⟩
set_option maxRecDepth 100000 in
set_option maxHeartbeats 2000000 in
/-- ger.Shift, where all is well. -/
theorem gshift_ok (m : MatM) (g ca : Nat) (VR VC : Value) (rs cs : List Int) (w : World) (hF : FW w g m.ws) (hm : m.good = true) (hwm : m.wf) (hlm : m.ws.length ≤ 1000000) (hr : m.rows ≤ 1000) (hc : m.cols ≤ 1000)
    (hR : ∀ w', But w [g] w' → IS .i64 w' VR rs) (hC : ∀ w', But w [g] w' → IS .i64 w' VC cs) (lr : (rs.length : Int) = m.rows) (lc : (cs.length : Int) = m.cols) :
    Calls Try.prog 184 #[.agg #[(.slice (some ⟨g, 0, none⟩) m.ws.length ca), .int .i64 m.off, .int .i64 m.rows, .int .i64 m.cols, .int .i64 m.ld], VR, VC] w (fun e w' => e = .returned (.int .i64 0) ∧ But w [g] w' ∧ ∃ L, FW w' g L ∧ Hold m.place m.rows.toNat m.cols.toNat m.ws L (fun i j => shF rs cs i j (m.num i j))) := by
  have hgd : ∀ w', FW w' g m.ws → Calls Try.prog 130 #[.agg #[(.slice (some ⟨g, 0, none⟩) m.ws.length ca), .int .i64 m.off, .int .i64 m.rows, .int .i64 m.cols, .int .i64 m.ld]] w' (fun e w2 => e = .returned (.bool true) ∧ ∃ o n, w2 = ext w' o n) := fun w' h => by
    have := good_any m (.slice (some ⟨g, 0, none⟩) m.ws.length ca) w' (h.fs (by omega) ca) hwm; rw [hm] at this; exact this
  have hpl : ∀ i j : Nat, (i : Int) < m.rows → (j : Int) < m.cols → (m.off + j * m.ld + i).toNat = m.place i j ∧ m.place i j < m.ws.length := fun i j hi hj => by
    have h := MatM.good_place hm hi hj
    have e : (m.off + j * m.ld + i).toNat = m.place i j := by unfold MatM.place; congr 1; omega
    exact ⟨e, by unfold MatM.place; omega⟩
  have hea := fun (w' : World) (h : FW w' g m.ws) q1 q2 hd => each2_any m g ca q1 q2 (fun i j x => shF rs cs i j x) w' h hm hwm hlm hr hc hd
  have hlt := hF.lt
  have hn := MatM.good_n hm
  obtain ⟨aR, cR, rfl⟩ := (hR w (But.refl _ _)).shape
  obtain ⟨aC, cC, rfl⟩ := (hC w (But.refl _ _)).shape
  have d1 : ((rs.length : Int) != m.rows) = false := by simpa using lr
  have d2 : ((cs.length : Int) != m.cols) = false := by simpa using lc
  have HLR := hid lr
  have HLC := hid lc
  have HPL := hid hpl
  clear hm hwm lr lc hpl
  go_enter Try.func184, Try.ntmps184
  refine seq_stop ?_
  go_wp2
  refine stop_go (fun W hW => ?_)
  have s1 : w.heap.size < W.heap.size := by rw [hW]; simp only [World.size_alloc]; omega
  have b1 : ∀ i, W.cell? ⟨w.heap.size, i, none⟩ = (#[(.slice (some ⟨g, 0, none⟩) m.ws.length ca), .int .i64 m.off, .int .i64 m.rows, .int .i64 m.cols, .int .i64 m.ld] : Array Value)[i]? := by intro i; rw [hW]; go_simp
  have X1 : Box W (w.heap.size) #[(.slice (some ⟨g, 0, none⟩) m.ws.length ca), .int .i64 m.off, .int .i64 m.rows, .int .i64 m.cols, .int .i64 m.ld] := by rw [hW]; refine Box.grew ?_ (((Grew.refl _).alloc _).alloc _); exact Box.new' (by first | rfl | (simp only [World.size_alloc]; done) | (simp only [World.size_alloc]; omega))
  have f1 : ∀ i, W.frozen? ⟨w.heap.size, i, none⟩ = false := by intro i; rw [hW]; go_simp
  have s2 : w.heap.size + 1 < W.heap.size := by rw [hW]; simp only [World.size_alloc]; omega
  have b2 : ∀ i, W.cell? ⟨w.heap.size + 1, i, none⟩ = (#[.slice aR rs.length cR] : Array Value)[i]? := by intro i; rw [hW]; go_simp
  have X2 : Box W (w.heap.size + 1) #[.slice aR rs.length cR] := by rw [hW]; refine Box.grew ?_ ((Grew.refl _).alloc _); exact Box.new' (by first | rfl | (simp only [World.size_alloc]; done) | (simp only [World.size_alloc]; omega))
  have f2 : ∀ i, W.frozen? ⟨w.heap.size + 1, i, none⟩ = false := by intro i; rw [hW]; go_simp
  have s3 : w.heap.size + 1 + 1 < W.heap.size := by rw [hW]; simp only [World.size_alloc]; omega
  have b3 : ∀ i, W.cell? ⟨w.heap.size + 1 + 1, i, none⟩ = (#[.slice aC cs.length cC] : Array Value)[i]? := by intro i; rw [hW]; go_simp
  have X3 : Box W (w.heap.size + 1 + 1) #[.slice aC cs.length cC] := by rw [hW]; exact Box.new' (by first | rfl | (simp only [World.size_alloc]; done) | (simp only [World.size_alloc]; omega))
  have f3 : ∀ i, W.frozen? ⟨w.heap.size + 1 + 1, i, none⟩ = false := by intro i; rw [hW]; go_simp
  have g0 : Grew w W := by rw [hW]; exact (((Grew.refl _).alloc _).alloc _).alloc _
  clear hW
  obtain ⟨p4, hp4⟩ : ∃ p, p = w.heap.size + 1 := ⟨_, rfl⟩
  obtain ⟨p5, hp5⟩ : ∃ p, p = w.heap.size + 1 + 1 := ⟨_, rfl⟩
  have hFW := hF.grew g0
  go_upto_region 5 with (first | (go_at_call 130; ((with_reducible refine (hgd _ (hFW.grew (by (show Grew _ _; (try simp only [← Array.append_assoc]); repeat (first | (with_reducible exact Grew.same_o) | (with_reducible exact Grew.refl _) | (with_reducible assumption) | (with_reducible refine Grew.alloc ?_ _) | (with_reducible refine Grew.app_r ?_) | ((with_reducible refine Grew.setCell ?_ ?_ _); rotate_left; (focus (dsimp only; first | omega | (simp only [size_ext, World.size_alloc, Array.size_append]; omega)))) | (with_reducible refine Grew.ext ?_ _ _) | (with_reducible refine Grew.drewN ?_ _) | (with_reducible refine Grew.drew ?_)))))).mono ?_); rintro e w1 ⟨rfl, o1, n1, rfl⟩)))
  refine name_any (fun V hV => ?_)
  have gV : Grew W V := by rw [← hV]; (show Grew _ _; (try simp only [← Array.append_assoc]); repeat (first | (with_reducible exact Grew.same_o) | (with_reducible exact Grew.refl _) | (with_reducible assumption) | (with_reducible refine Grew.alloc ?_ _) | (with_reducible refine Grew.app_r ?_) | ((with_reducible refine Grew.setCell ?_ ?_ _); rotate_left; (focus (dsimp only; first | omega | (simp only [size_ext, World.size_alloc, Array.size_append]; omega)))) | (with_reducible refine Grew.ext ?_ _ _) | (with_reducible refine Grew.drewN ?_ _) | (with_reducible refine Grew.drew ?_)))
  have gw := Grew.trans g0 gV
  have Y3 := X1.grew gV
  have Y4 : Box V p4 #[.slice aR rs.length cR] := by rw [hp4]; exact X2.grew gV
  have Y5 : Box V p5 #[.slice aC cs.length cC] := by rw [hp5]; exact X3.grew gV
  have t3 := Y3.cell
  have l3 := Y3.lt
  have l4 := Y4.lt
  have l5 := Y5.lt
  have hFV := hF.grew gw
  have n4 : p4 ≠ g := by omega
  have n5 : p5 ≠ g := by omega
  have bw : ∀ w', But V [g] w' → But w [g] w' := fun w' h => ((But.refl w [g]).grew gw).trans h (fun _ hb => .inl hb)
  have hd : DoesAt2 V m g (.pointer (some ⟨p4, 0, none⟩)) (.pointer (some ⟨p5, 0, none⟩)) (fun i j x => shF rs cs i j x) := fun w' L s hB hL hH i j hi hj => by
    obtain ⟨e1, e2⟩ := HPL.out i j hi hj
    rw [e1]
    refine shcl_any i j (0) (s i j) g (m.place i j) p4 p5 _ _ rs cs L w' hL (by rw [hH.len]; exact e2) (hH.get i j (by omega) (by omega)).symm (hR w' (bw _ hB)) (hC w' (bw _ hB)) (Box.but' Y4 hB (by simpa using n4)).cell (Box.but' Y5 hB (by simpa using n5)).cell (Box.but' Y4 hB (by simpa using n4)).lt (Box.but' Y5 hB (by simpa using n5)).lt (by have := HLR.out; omega) (by have := HLC.out; omega)
  have hcl := hea V hFV _ _ hd
  simp only [← hp5]
  simp only [← hp4]
  clear hV hp4 hp5 X1 X2 X3 b1 b2 b3 Y3 Y4 Y5 hea hd hgd
  have hmf := hmf
  go_wp2_with (first | (go_at_call 138; ((with_reducible refine (hcl).mono ?_); rintro e w1 ⟨rfl, hB1, L, hL, hH⟩)))
  go_ret
  exact ⟨rfl, bw _ hB1, L, hL, hH⟩
end Go.Proofs.Ytcmggfpcbijcjaa
end
section
/-
  Contract: move.Clone.
-/
set_option linter.unusedSimpArgs false
set_option linter.unusedVariables false
open Go Go.RowKit Sedge
namespace Go.Proofs.Ytcmggfpcbijcjaa
section
variable {P : Program} {o : Oper} {a : Act} {w : World} {K : Act → World → Prop} {Q : Exit → Act → World → Prop}
theorem wp_cp {d : Option Tmp} {x s : Operand} {tt : Array TypeId} {ty : TypeId} {ps : String} {aft : Array Edge} (h : Oper.wp P { dst := d, op := .call { callee := .builtin .copy, args := #[x, s], argTypes := tt }, type := ty, pos := ps, after := aft, guard := none } a w K Q) : Oper.wp P { dst := d, op := .call { callee := .builtin .copy, args := #[x, s], argTypes := tt }, type := ty, pos := ps, after := aft, guard := none } a w K Q := h
/-- 'copy(d, s)' of floats, in a region that draws its order. -/
theorem copyF_R (hgd : o.guard = none) (d s : Operand) (dT sT : TypeId)
    (ho : o.op = .call { callee := .builtin .copy, args := #[d, s], argTypes := #[dT, sT] }) (elem : TypeId) (hu : P.underlying dT = some (.slice elem)) (hsz : (P.info? elem).map (·.size) = some 1)
    (g dl dCap : Nat) (sp : Option Addr) (sl sCap : Nat) (ws xs : List Nat) (hd : a.eval d = .slice (some ⟨g, 0, none⟩) dl dCap) (hs : a.eval s = .slice sp sl sCap) (hl : ws.length = dl) (hl2 : xs.length = sl)
    (hF : FW w g ws) (hX : FS w (.slice sp sl sCap) xs)
    (h : ∀ z w', Wrote w w' g (cpl ws xs) → K (a.put o.dst (goInt z)) w') : o.wp P a w K Q := by
  subst hl hl2
  have h1 := copyF_K (P := P) (ops := #[]) (Q := fun e a w => e = .normal ∧ K a w) (rest := []) hgd d s dT sT ho elem hu hsz g dCap sp sCap ws xs hd hs hF hX (fun w' h1 => ⟨rfl, h _ w' h1⟩)
  unfold wpList at h1
  rw [if_pos (wanted_none hgd)] at h1
  rcases h1 with h1 | ⟨_, _, _, h2, _⟩
  · exact wp_any (Oper.wp_mono (fun a w hh => hh.2) h1)
  · cases h2
end
theorem cpl_all {ws xs : List Nat} (h : ws.length = xs.length) : cpl ws xs = xs := by
  apply List.ext_getElem?
  intro i
  by_cases hi : i < ws.length
  · have h2 := cpl_getD ws xs hi
    rw [if_pos (by omega), List.getD_eq_getElem?_getD, List.getD_eq_getElem?_getD] at h2
    rw [List.getElem?_eq_getElem (by rw [cpl_length]; exact hi), List.getElem?_eq_getElem (by omega)] at h2 ⊢
    simpa using h2
  · rw [List.getElem?_eq_none (by rw [cpl_length]; omega), List.getElem?_eq_none (by omega)]
set_option maxRecDepth 100000 in
set_option maxHeartbeats 1000000 in
/-- view.Dense, of no rows. -/
theorem denseZ_any (c : Nat) (w : World) (hc : c ≤ 64) :
   Calls Try.prog 69 #[.int .i64 0, .int .i64 c, .slice none 0 0] w (fun e w' => ∃ k, e = .returned (.agg #[.slice (some ⟨k, 0, none⟩) 0 0, .int .i64 0, .int .i64 0, .int .i64 c, .int .i64 1]) ∧ w.heap.size ≤ k ∧ FW w' k [] ∧ ∃ o n, w' = ext w o n) := by
  have d2 : decide ((c : Int) < 0) = false := by simp
  have d4 : decide ((64 : Int) < (c : Int)) = false := by simp; omega
  go_enter Try.func69, Try.ntmps69
  refine seq_stop ?_
  go_wp2
  refine stop_go (fun W hW => ?_)
  have s1 : w.heap.size < W.heap.size := by rw [hW]; simp only [World.size_alloc]; omega
  have b1 : ∀ i, W.cell? ⟨w.heap.size, i, none⟩ = (#[.slice none 0 0, .int .i64 0, .int .i64 0, .int .i64 0, .int .i64 0] : Array Value)[i]? := by intro i; rw [hW]; go_simp
  have f1 : ∀ i, W.frozen? ⟨w.heap.size, i, none⟩ = false := by intro i; rw [hW]; go_simp
  have g0 : Grew w W := by rw [hW]; exact (Grew.refl _).alloc _
  clear hW
  go_wp2_with (at_make; refine make_f (L := 0) finfo (Grew.refl W) _ _ rfl rfl 0 rfl rfl rfl (by omega) ?_; intro oo nn k hk ho; have hF := ho.made)
  have hF0 : FW (ext W oo nn) k [] := hF
  refine name_any (fun V hV => ?_)
  have gV : Grew W V := by rw [← hV]; (show Grew _ _; repeat (first | (with_reducible exact Grew.refl _) | (with_reducible assumption) | (with_reducible exact Grew.same_o) | (with_reducible exact Grew.app_o) | (with_reducible refine Grew.ext ?_ _ _) | (with_reducible refine Grew.alloc ?_ _) | ((with_reducible refine Grew.setCell ?_ ?_ _); rotate_left; (focus (dsimp only; first | omega | (simp only [size_ext, World.size_alloc, Array.size_append]; omega)))) | (with_reducible refine Grew.drewN ?_ _) | (with_reducible refine Grew.drew ?_)))
  have sV := gV.below.size
  have k1 : w.heap.size < V.heap.size := by omega
  have k3 : W.heap.size + oo.size < V.heap.size := by rw [← hV]; simp only [World.size_alloc, size_ext]; omega
  have c3 : ∀ i, V.cell? ⟨W.heap.size + oo.size, i, none⟩ = (#[.slice (some ⟨k, 0, none⟩) 0 0, .int .i64 0, .int .i64 0, .int .i64 c, .int .i64 1] : Array Value)[i]? := by subst hV; intro i; go_simp
  have c1 : ∀ i, V.cell? ⟨w.heap.size, i, none⟩ = (#[.slice none 0 0, .int .i64 0, .int .i64 0, .int .i64 0, .int .i64 0] : Array Value)[i]? := fun i => (gV.cell s1).trans (b1 i)
  have z1 : ∀ i, V.frozen? ⟨w.heap.size, i, none⟩ = false := fun i => (gV.frozen s1).trans (f1 i)
  have hFV : FW V k [] := by rw [← hV]; (repeat (first | (with_reducible assumption) | ((with_reducible refine FW.ext_set ?_ ?_ ?_ _); rotate_left; (focus (simp only [size_setCell', World.size_alloc, size_ext, size_upd]; omega)); (focus (dsimp only; omega))) | ((with_reducible refine FW.setCell_ne ?_ ?_ _); rotate_left; (focus (dsimp only; omega))) | (with_reducible refine FW.ext ?_ _ _) | (with_reducible refine FW.alloc ?_ _)))
  clear hV b1 f1 ho
  go_loopw [43] (fun s wr => s = .int .i64 0 ∧ wr = V) (fun s _ => 0)
  case atStart => exact ⟨rfl, rfl⟩
  case round =>
    obtain ⟨rfl, rfl⟩ := hrel
    go_wp2
    refine bodyPost_ret (v := .agg #[.slice (some ⟨k, 0, none⟩) 0 0, .int .i64 0, .int .i64 0, .int .i64 c, .int .i64 1]) (by simp [results, Try.results69, go_sem, *]) rfl ?_
    have g1 := Grew.trans g0 gV
    exact ⟨k, rfl, by omega, by (repeat (first | (with_reducible assumption) | ((with_reducible refine FW.ext_set ?_ ?_ ?_ _); rotate_left; (focus (simp only [size_setCell', World.size_alloc, size_ext, size_upd]; omega)); (focus (dsimp only; omega))) | ((with_reducible refine FW.setCell_ne ?_ ?_ _); rotate_left; (focus (dsimp only; omega))) | (with_reducible refine FW.ext ?_ _ _) | (with_reducible refine FW.alloc ?_ _))), by (show Grew _ _; repeat (first | (with_reducible exact Grew.refl _) | (with_reducible assumption) | (with_reducible exact Grew.same_o) | (with_reducible exact Grew.app_o) | (with_reducible refine Grew.ext ?_ _ _) | (with_reducible refine Grew.alloc ?_ _) | ((with_reducible refine Grew.setCell ?_ ?_ _); rotate_left; (focus (dsimp only; first | omega | (simp only [size_ext, World.size_alloc, Array.size_append]; omega)))) | (with_reducible refine Grew.drewN ?_ _) | (with_reducible refine Grew.drew ?_)))⟩
/-- view.Dense, without numbers. -/
theorem denseA_any (r c : Nat) (w : World) (hr : r ≤ 64) (hc : c ≤ 64) :
   Calls Try.prog 69 #[.int .i64 r, .int .i64 c, .slice none 0 0] w (fun e w' => ∃ k, e = .returned (.agg #[.slice (some ⟨k, 0, none⟩) (r * c) (r * c), .int .i64 0, .int .i64 r, .int .i64 c, .int .i64 (max r 1 : Nat)]) ∧ w.heap.size ≤ k ∧ FW w' k (List.replicate (r * c) 0) ∧ ∃ o n, w' = ext w o n) := by
  rcases Nat.eq_zero_or_pos r with h | h
  · subst h
    have := denseZ_any c w hc
    simpa using this
  · have := dense0k_any r c w hr hc h
    rw [show max r 1 = r by omega]
    exact this
set_option maxRecDepth 100000 in
set_option maxHeartbeats 2000000 in
/-- move.Clone, of sizes within 64. -/
theorem clone_ok (x : MatM) (D : Value) (R C : Nat) (w : World) (hD : FS w D x.ws) (hx : x.good = true) (hwf : x.wf) (hl : x.ws.length ≤ 1000000) (hR : x.rows = R) (hC : x.cols = C) (hr : R ≤ 64) (hc : C ≤ 64) :
   Calls Try.prog 163 #[.agg #[D, .int .i64 x.off, .int .i64 R, .int .i64 C, .int .i64 x.ld]] w (fun e w' => ∃ k, e = .returned (.tuple #[.agg #[.slice (some ⟨k, 0, none⟩) (R * C) (R * C), .int .i64 0, .int .i64 R, .int .i64 C, .int .i64 (max R 1 : Nat)], .int .i64 0]) ∧ w.heap.size ≤ k ∧ FW w' k (numL x) ∧ ∃ o n, w' = ext w o n) := by
  have hgd : ∀ w', FS w' D x.ws → Calls Try.prog 130 #[.agg #[D, .int .i64 x.off, .int .i64 R, .int .i64 C, .int .i64 x.ld]] w' (fun e w2 => e = .returned (.bool true) ∧ ∃ o n, w2 = ext w' o n) := fun w' h => by
    have := good_any x D w' h hwf; rw [hx, hR, hC] at this; exact this
  have hnb : ∀ w', FS w' D x.ws → Calls Try.prog 198 #[.agg #[D, .int .i64 x.off, .int .i64 R, .int .i64 C, .int .i64 x.ld]] w' (fun e w2 => ∃ v, e = .returned v ∧ FS w2 v (numL x) ∧ ∃ o n, w2 = ext w' o n) := fun w' h => by
    have := numbers_any x D w' h hx hwf hl (by omega) (by omega); rw [hR, hC] at this; exact this
  have lN : (numL x).length = R * C := by simp [numL, numTo, hR, hC]
  have hm : R * C ≤ 64 * 64 := Nat.mul_le_mul hr hc
  obtain ⟨N, hN⟩ : ∃ N, N = numL x := ⟨_, rfl⟩
  rw [← hN] at hnb lN ⊢
  have d1 : decide ((64 : Int) < (R : Int)) = false := by simp; omega
  have d2 : decide ((64 : Int) < (C : Int)) = false := by simp; omega
  obtain ⟨LD, hLD⟩ : ∃ LD, LD = max R 1 := ⟨_, rfl⟩
  have hds := fun w' => denseA_any R C w' hr hc
  rw [← hLD] at hds ⊢
  clear hx hwf hR hC hN hLD
  go_enter Try.func163, Try.ntmps163
  refine seq_stop ?_
  go_wp2
  refine stop_go (fun W hW => ?_)
  have s1 : w.heap.size < W.heap.size := by rw [hW]; simp only [World.size_alloc]; omega
  have b1 : ∀ i, W.cell? ⟨w.heap.size, i, none⟩ = (#[D, .int .i64 x.off, .int .i64 R, .int .i64 C, .int .i64 x.ld] : Array Value)[i]? := by intro i; rw [hW]; go_simp
  have X1 : Box W (w.heap.size) #[D, .int .i64 x.off, .int .i64 R, .int .i64 C, .int .i64 x.ld] := by rw [hW]; refine Box.grew ?_ ((Grew.refl _).alloc _); exact Box.new' (by first | rfl | (simp only [World.size_alloc]; done) | (simp only [World.size_alloc]; omega))
  have f1 : ∀ i, W.frozen? ⟨w.heap.size, i, none⟩ = false := by intro i; rw [hW]; go_simp
  have s2 : w.heap.size + 1 < W.heap.size := by rw [hW]; simp only [World.size_alloc]; omega
  have b2 : ∀ i, W.cell? ⟨w.heap.size + 1, i, none⟩ = (#[.slice none 0 0, .int .i64 0, .int .i64 0, .int .i64 0, .int .i64 0] : Array Value)[i]? := by intro i; rw [hW]; go_simp
  have X2 : Box W (w.heap.size + 1) #[.slice none 0 0, .int .i64 0, .int .i64 0, .int .i64 0, .int .i64 0] := by rw [hW]; exact Box.new' (by first | rfl | (simp only [World.size_alloc]; done) | (simp only [World.size_alloc]; omega))
  have f2 : ∀ i, W.frozen? ⟨w.heap.size + 1, i, none⟩ = false := by intro i; rw [hW]; go_simp
  have g0 : Grew w W := by rw [hW]; exact ((Grew.refl _).alloc _).alloc _
  clear hW
  have hDW := hD.grew g0
  go_upto_region 6 with (first | (go_at_call 130; ((with_reducible refine (hgd _ ?_).mono ?_); (focus (first | (with_reducible assumption) | (with_reducible refine FS.ext ?_ _ _; with_reducible assumption) | (with_reducible refine IS.ext ?_ _ _; with_reducible assumption) | (refine hDu _ ?_; with_reducible assumption) | (refine hOu _ ?_; with_reducible assumption) | (refine hDa _ ?_; with_reducible assumption) | (refine hDb _ ?_; with_reducible assumption) | (refine hDc _ ?_; with_reducible assumption) | (refine hDd _ ?_; with_reducible assumption) | (refine FW.fs ?_ (by omega) _; with_reducible assumption) | (refine WS.fs ?_; with_reducible assumption) | (refine FW.fs ?_ (by omega) _; assumption) | omega | assumption)); rintro e w1 ⟨rfl, o1, n1, rfl⟩)) | (go_at_call 69; ((with_reducible refine (hds _).mono ?_); rintro e w1 ⟨k, rfl, hk, hF, o2, n2, rfl⟩)))
  refine name_any (fun V hV => ?_)
  obtain ⟨p1, hp1⟩ : ∃ p, p = w.heap.size := ⟨_, rfl⟩
  obtain ⟨p2, hp2⟩ : ∃ p, p = w.heap.size + 1 := ⟨_, rfl⟩
  obtain ⟨p4, hp4⟩ : ∃ p, p = W.heap.size + (o1.size + o2.size) := ⟨_, rfl⟩
  have gV : Grew W V := by rw [← hV]; (show Grew _ _; (try simp only [← Array.append_assoc]); repeat (first | (with_reducible exact Grew.same_o) | (with_reducible exact Grew.refl _) | (with_reducible assumption) | (with_reducible refine Grew.alloc ?_ _) | (with_reducible refine Grew.app_r ?_) | ((with_reducible refine Grew.setCell ?_ ?_ _); rotate_left; (focus (dsimp only; first | omega | (simp only [size_ext, World.size_alloc, Array.size_append]; omega)))) | (with_reducible refine Grew.ext ?_ _ _) | (with_reducible refine Grew.drewN ?_ _) | (with_reducible refine Grew.drew ?_)))
  have gw := Grew.trans g0 gV
  have Y1 : Box V p1 #[D, .int .i64 x.off, .int .i64 R, .int .i64 C, .int .i64 x.ld] := by rw [hp1]; exact X1.grew gV
  have Y2 : Box V p2 #[.slice none 0 0, .int .i64 0, .int .i64 0, .int .i64 0, .int .i64 0] := by rw [hp2]; exact X2.grew gV
  have Y4 : Box V p4 #[.slice (some ⟨k, 0, none⟩) (R * C) (R * C), .int .i64 0, .int .i64 R, .int .i64 C, .int .i64 LD] := by rw [← hV]; exact Box.new' (by rw [hp4]; simp only [size_ext, Array.size_append])
  simp only [ext_ext] at hF
  have hFV : FW V k (List.replicate (R * C) 0) := by rw [← hV]; exact hF.grew (by (show Grew _ _; (try simp only [← Array.append_assoc]); repeat (first | (with_reducible exact Grew.same_o) | (with_reducible exact Grew.refl _) | (with_reducible assumption) | (with_reducible refine Grew.alloc ?_ _) | (with_reducible refine Grew.app_r ?_) | ((with_reducible refine Grew.setCell ?_ ?_ _); rotate_left; (focus (dsimp only; first | omega | (simp only [size_ext, World.size_alloc, Array.size_append]; omega)))) | (with_reducible refine Grew.ext ?_ _ _) | (with_reducible refine Grew.drewN ?_ _) | (with_reducible refine Grew.drew ?_))))
  have lk := hF.lt
  simp only [size_ext, Array.size_append] at lk hk
  have zk : W.heap.size ≤ k := by omega
  have n1k : p1 ≠ k := by have := Y1.lt; omega
  have n2k : p2 ≠ k := by omega
  have n4k : p4 ≠ k := by omega
  have n24 : p2 ≠ p4 := by omega
  have z2 : w.heap.size ≤ p2 := by omega
  have zwk : w.heap.size ≤ k := by omega
  have hDV := hD.grew gw
  have t1 : ∀ w', But V [k] w' → ∀ i, w'.cell? ⟨p1, i, none⟩ = (#[D, .int .i64 x.off, .int .i64 R, .int .i64 C, .int .i64 x.ld] : Array Value)[i]? := fun w' h i => (h.cell Y1.lt (by simpa using n1k)).trans (Y1.cell i)
  have t4 : ∀ w', But V [k] w' → ∀ i, w'.cell? ⟨p4, i, none⟩ = (#[.slice (some ⟨k, 0, none⟩) (R * C) (R * C), .int .i64 0, .int .i64 R, .int .i64 C, .int .i64 LD] : Array Value)[i]? := fun w' h i => (h.cell Y4.lt (by simpa using n4k)).trans (Y4.cell i)
  have B0 := But.refl V [k]
  simp only [← hp4]
  simp only [← hp2]
  simp only [← hp1]
  clear hV hp1 hp2 hp4 X1 X2 b1 b2 s1 s2 f1 f2 hF hgd hds hDW lk hk
  refine wp_region_R (But V [k]) [] [(0,0), (0,1), (0,2), (1,3), (1,4)] (by kernel_rfl) (by kernel_rfl) (fun _ _ _ _ h _ => h) (B0.grew ((Grew.refl _).drew)) ?_
  refine name_any (fun V1 hV1 => ?_)
  have D1 : But V [k] V1 := by rw [← hV1]; exact B0.grew ((Grew.refl _).drew)
  have gV1 : Grew V V1 := by rw [← hV1]; (show Grew _ _; (try simp only [← Array.append_assoc]); repeat (first | (with_reducible exact Grew.same_o) | (with_reducible exact Grew.refl _) | (with_reducible assumption) | (with_reducible refine Grew.alloc ?_ _) | (with_reducible refine Grew.app_r ?_) | ((with_reducible refine Grew.setCell ?_ ?_ _); rotate_left; (focus (dsimp only; first | omega | (simp only [size_ext, World.size_alloc, Array.size_append]; omega)))) | (with_reducible refine Grew.ext ?_ _ _) | (with_reducible refine Grew.drewN ?_ _) | (with_reducible refine Grew.drew ?_)))
  have F1 := hFV.grew gV1
  have hD1 := hDV.grew gV1
  clear hV1
  go_upto_region 7 with (first | ((with_reducible refine wpR_id ?_); refine wpR_do rfl rfl (fun K hK => ?_); (with_reducible refine wp_cp ?_); refine copyF_R rfl (.tmp 26) (.tmp 28) 24 24 rfl 22 (by kernel_rfl) (by kernel_rfl) k (R * C) (R * C) va (R * C) vc _ N rfl rfl (by simp) lN (F1.ext _ _) hv ?_; intro z w3 hw3; have D3 : But V [k] w3 := (D1.grew (by (show Grew _ _; (try simp only [← Array.append_assoc]); repeat (first | (with_reducible exact Grew.same_o) | (with_reducible exact Grew.refl _) | (with_reducible assumption) | (with_reducible refine Grew.alloc ?_ _) | (with_reducible refine Grew.app_r ?_) | ((with_reducible refine Grew.setCell ?_ ?_ _); rotate_left; (focus (dsimp only; first | omega | (simp only [size_ext, World.size_alloc, Array.size_append]; omega)))) | (with_reducible refine Grew.ext ?_ _ _) | (with_reducible refine Grew.drewN ?_ _) | (with_reducible refine Grew.drew ?_))))).wrote hw3 (.inl (by simp))) | ((with_reducible refine wpR_id ?_); first | (refine wpR_take (v := ?_) rfl rfl ?_ ?_; rotate_left; (focus (intro w' hw'; go_simp; try with_reducible rfl)); simp only [Act.put, List.setIfInBounds_toArray, List.set_cons_zero, List.set_cons_succ]) | (refine wpR_pure (v := ?_) rfl rfl ?_ ?_; rotate_left; (focus (intro w'; go_simp; try with_reducible rfl)); simp only [Act.put, List.setIfInBounds_toArray, List.set_cons_zero, List.set_cons_succ]) | (refine wpR_takeG (v := ?_) rfl rfl rfl rfl rfl ?_ ?_; rotate_left; (focus (intro w' hw'; go_simp; try with_reducible rfl)); simp only [Act.put, List.setIfInBounds_toArray, List.set_cons_zero, List.set_cons_succ]) | (refine wpR_skip rfl rfl rfl rfl rfl rfl ?_; simp only [Act.put, List.setIfInBounds_toArray, List.set_cons_zero, List.set_cons_succ]) | (refine wpR_skipU rfl rfl rfl rfl rfl ?_; simp only [Act.put, List.setIfInBounds_toArray, List.set_cons_zero, List.set_cons_succ]) | (refine wpR_do rfl rfl (fun K hK => ?_)) | (refine wpR_doG rfl rfl rfl rfl rfl (fun K hK => ?_)) | (refine wpR_last rfl rfl (fun K hK => ?_)) | (refine wpR_nil ?_)) | ((with_reducible refine wpR_go ?_ ?_); (focus (with_reducible assumption))) | ((with_reducible refine upon_id ?_); refine upon_fop rfl (by assumption) (by assumption) ?_; intro rr nn hr) | (go_at_call 198; ((with_reducible refine (hnb _ hD1).mono ?_); rintro e w1 ⟨v, rfl, hv, o3, n3, rfl⟩; (obtain ⟨va, vc, rfl⟩ := hv.shape); (rw [lN] at hv); (have D2 : But V [k] (ext V1 o3 n3) := D1.grew (by (show Grew _ _; (try simp only [← Array.append_assoc]); repeat (first | (with_reducible exact Grew.same_o) | (with_reducible exact Grew.refl _) | (with_reducible assumption) | (with_reducible refine Grew.alloc ?_ _) | (with_reducible refine Grew.app_r ?_) | ((with_reducible refine Grew.setCell ?_ ?_ _); rotate_left; (focus (dsimp only; first | omega | (simp only [size_ext, World.size_alloc, Array.size_append]; omega)))) | (with_reducible refine Grew.ext ?_ _ _) | (with_reducible refine Grew.drewN ?_ _) | (with_reducible refine Grew.drew ?_))))))))
  have F3 := hw3.fw (F1.ext o3 n3)
  rw [cpl_all (by rw [List.length_replicate]; exact lN.symm)] at F3
  have q4 := t4 _ D3
  have Y2' := Box.but' Y2 D3 (by simpa using n2k)
  have q2 := Y2'.cell
  have f2 := Y2'.frozen
  have l2 := Y2'.lt
  have z3 := D3.size
  have l4 : p4 < w3.heap.size := Nat.lt_of_lt_of_le Y4.lt z3
  have g3 : Grew w w3 := D3.grew0 gw (by intro q hq; simp at hq; omega)
  clear t1 t4 hnb hw3 D3
  go_wp2
  refine bodyPost_ret (v := .tuple #[.agg #[.slice (some ⟨k, 0, none⟩) (R * C) (R * C), .int .i64 0, .int .i64 R, .int .i64 C, .int .i64 LD], .int .i64 0]) (by simp [results, Try.results163, go_sem, *]) rfl ?_
  exact ⟨k, rfl, zwk, by (repeat (first | (with_reducible assumption) | ((with_reducible refine FW.ext_set ?_ ?_ ?_ _); rotate_left; (focus (simp only [size_setCell', World.size_alloc, size_ext, size_upd]; omega)); (focus (dsimp only; omega))) | ((with_reducible refine FW.setCell_ne ?_ ?_ _); rotate_left; (focus (dsimp only; omega))) | (with_reducible refine FW.ext ?_ _ _) | (with_reducible refine FW.alloc ?_ _))), by (show Grew _ _; repeat (first | (with_reducible exact Grew.refl _) | (with_reducible assumption) | (with_reducible exact Grew.same_o) | (with_reducible exact Grew.app_o) | (with_reducible refine Grew.ext ?_ _ _) | (with_reducible refine Grew.alloc ?_ _) | ((with_reducible refine Grew.setCell ?_ ?_ _); rotate_left; (focus (dsimp only; first | omega | (simp only [size_ext, World.size_alloc, Array.size_append]; omega)))) | (with_reducible refine Grew.drewN ?_ _) | (with_reducible refine Grew.drew ?_)))⟩
end Go.Proofs.Ytcmggfpcbijcjaa
end
section
/-
  Contract: equil.Scale.
-/
set_option linter.unusedSimpArgs false
set_option linter.unusedVariables false
open Go Go.RowKit Sedge
namespace Go.Proofs.Ytcmggfpcbijcjaa
theorem matd_goodA {L : List Nat} {r c : Nat} (h : L.length = r * c) : MatM.good ⟨L, 0, r, c, (max r 1 : Nat)⟩ = true := by
  rcases Nat.eq_zero_or_pos r with h0 | h0
  · subst h0
    simp only [MatM.good, Bool.and_eq_true, Bool.or_eq_true, decide_eq_true_eq]
    refine ⟨by omega, .inl ?_⟩
    simp
  · rcases Nat.eq_zero_or_pos c with h1 | h1
    · subst h1
      simp only [MatM.good, Bool.and_eq_true, Bool.or_eq_true, decide_eq_true_eq]
      refine ⟨by omega, .inl ?_⟩
      simp
    · rw [show max r 1 = r by omega]; exact matd_good h h0 h1
theorem numL_at (x : MatM) {R C i j : Nat} (hR : x.rows = R) (hC : x.cols = C) (hi : i < R) (hj : j < C) : (numL x).getD (i + j * R) 0 = x.num i j := by
  unfold numL numTo
  rw [hR, hC, Int.toNat_natCast, Int.toNat_natCast]
  rw [List.getD_eq_getElem?_getD, List.getElem?_map, List.getElem?_range (place_lt2 hi hj)]
  show x.num ((i + j * R) % R) ((i + j * R) / R) = _
  rw [Nat.add_mul_mod_self_right, Nat.mod_eq_of_lt hi, Nat.add_mul_div_right _ _ (by omega), Nat.div_eq_of_lt hi, Nat.zero_add]
set_option maxRecDepth 100000 in
set_option maxHeartbeats 2000000 in
/-- equil.Scale, where all is well. -/
theorem scale_ok (x : MatM) (D VR VC : Value) (rs cs : List Int) (R C : Nat) (w : World) (hD : FS w D x.ws) (hx : x.good = true) (hwf : x.wf) (hl : x.ws.length ≤ 1000000) (hR : x.rows = R) (hC : x.cols = C) (hr : R ≤ 64) (hc : C ≤ 64)
    (hVR : IS .i64 w VR rs) (hVC : IS .i64 w VC cs) (lr : rs.length = R) (lc : cs.length = C) :
   Calls Try.prog 109 #[.agg #[D, .int .i64 x.off, .int .i64 R, .int .i64 C, .int .i64 x.ld], VR, VC] w (fun e w' => ∃ k L, e = .returned (.tuple #[.agg #[.slice (some ⟨k, 0, none⟩) (R * C) (R * C), .int .i64 0, .int .i64 R, .int .i64 C, .int .i64 (max R 1 : Nat)], .int .i64 0]) ∧ w.heap.size ≤ k ∧ FW w' k L ∧ L.length = R * C ∧ (∀ i j, i < R → j < C → L.getD (i + j * R) 0 = shF rs cs i j (x.num i j)) ∧ ∃ o n, w' = ext w o n) := by
  have hgd : ∀ w', FS w' D x.ws → Calls Try.prog 130 #[.agg #[D, .int .i64 x.off, .int .i64 R, .int .i64 C, .int .i64 x.ld]] w' (fun e w2 => e = .returned (.bool true) ∧ ∃ o n, w2 = ext w' o n) := fun w' h => by
    have := good_any x D w' h hwf; rw [hx, hR, hC] at this; exact this
  have hcl := fun w' h => clone_ok x D R C w' h hx hwf hl hR hC hr hc
  have lN : (numL x).length = R * C := by simp [numL, numTo, hR, hC]
  have hm : R * C ≤ 64 * 64 := Nat.mul_le_mul hr hc
  have hat : ∀ i j, i < R → j < C → (numL x).getD (i + j * R) 0 = x.num i j := fun i j hi hj => numL_at x hR hC hi hj
  obtain ⟨N, hN⟩ : ∃ N, N = numL x := ⟨_, rfl⟩
  rw [← hN] at lN hat
  rw [← hN] at hcl
  obtain ⟨LD, hLD⟩ : ∃ LD, LD = max R 1 := ⟨_, rfl⟩
  have hsh : ∀ w' k, FW w' k N → w.heap.size ≤ k → Grew w w' → Calls Try.prog 184 #[.agg #[.slice (some ⟨k, 0, none⟩) (R * C) (R * C), .int .i64 0, .int .i64 R, .int .i64 C, .int .i64 LD], VR, VC] w' (fun e w2 => e = .returned (.int .i64 0) ∧ But w' [k] w2 ∧ ∃ L, FW w2 k L ∧ L.length = R * C ∧ ∀ i j, i < R → j < C → L.getD (i + j * R) 0 = shF rs cs i j (x.num i j)) := fun w' k hF hk g => by
    have h := gshift_ok ⟨N, 0, R, C, (max R 1 : Nat)⟩ k (R * C) VR VC rs cs w' hF (matd_goodA lN) (by simp [MatM.wf, I64]; omega) (by show N.length ≤ _; omega) (by show (R : Int) ≤ 1000; omega) (by show (C : Int) ≤ 1000; omega)
      (fun w2 hb => hVR.grew (hb.grew0 g (by intro q hq; simp at hq; omega))) (fun w2 hb => hVC.grew (hb.grew0 g (by intro q hq; simp at hq; omega))) (by show (rs.length : Int) = R; omega) (by show (cs.length : Int) = C; omega)
    simp only at h
    rw [lN, ← hLD] at h
    refine h.mono fun e w2 hh => ?_
    obtain ⟨rfl, q1, L, q2, q3⟩ := hh
    refine ⟨rfl, q1, L, q2, by rw [q3.len]; exact lN, fun i j hi hj => ?_⟩
    have e1 : ∀ i j : Nat, i < R → MatM.place ⟨N, 0, R, C, (LD : Nat)⟩ i j = i + j * R := fun i j hi => by
      rw [hLD, show max R 1 = R by omega]; exact matd_place
    have h2 := q3.get i j hi hj
    rw [e1 i j hi] at h2
    rw [h2]
    congr 1
    unfold MatM.num
    rw [e1 i j hi]
    exact hat i j hi hj
  rw [← hLD] at hcl ⊢
  obtain ⟨aR, cR, rfl⟩ := hVR.shape
  obtain ⟨aC, cC, rfl⟩ := hVC.shape
  have d1 : ((rs.length : Int) != R) = false := by simp [lr]
  have d2 : ((cs.length : Int) != C) = false := by simp [lc]
  have HLR := hid lr
  have HLC := hid lc
  clear hx hwf hR hC hN hLD lr lc hat
  go_enter Try.func109, Try.ntmps109
  refine seq_stop ?_
  go_wp2
  refine stop_go (fun W hW => ?_)
  have s1 : w.heap.size < W.heap.size := by rw [hW]; simp only [World.size_alloc]; omega
  have b1 : ∀ i, W.cell? ⟨w.heap.size, i, none⟩ = (#[D, .int .i64 x.off, .int .i64 R, .int .i64 C, .int .i64 x.ld] : Array Value)[i]? := by intro i; rw [hW]; go_simp
  have X1 : Box W (w.heap.size) #[D, .int .i64 x.off, .int .i64 R, .int .i64 C, .int .i64 x.ld] := by rw [hW]; refine Box.grew ?_ ((Grew.refl _).alloc _); exact Box.new' (by first | rfl | (simp only [World.size_alloc]; done) | (simp only [World.size_alloc]; omega))
  have f1 : ∀ i, W.frozen? ⟨w.heap.size, i, none⟩ = false := by intro i; rw [hW]; go_simp
  have s2 : w.heap.size + 1 < W.heap.size := by rw [hW]; simp only [World.size_alloc]; omega
  have b2 : ∀ i, W.cell? ⟨w.heap.size + 1, i, none⟩ = (#[.slice none 0 0, .int .i64 0, .int .i64 0, .int .i64 0, .int .i64 0] : Array Value)[i]? := by intro i; rw [hW]; go_simp
  have X2 : Box W (w.heap.size + 1) #[.slice none 0 0, .int .i64 0, .int .i64 0, .int .i64 0, .int .i64 0] := by rw [hW]; exact Box.new' (by first | rfl | (simp only [World.size_alloc]; done) | (simp only [World.size_alloc]; omega))
  have f2 : ∀ i, W.frozen? ⟨w.heap.size + 1, i, none⟩ = false := by intro i; rw [hW]; go_simp
  have g0 : Grew w W := by rw [hW]; exact ((Grew.refl _).alloc _).alloc _
  clear hW
  have hDW := hD.grew g0
  go_upto_region 8 with (first | (go_at_call 130; ((with_reducible refine (hgd _ ?_).mono ?_); (focus (first | (with_reducible assumption) | (with_reducible refine FS.ext ?_ _ _; with_reducible assumption) | (with_reducible refine IS.ext ?_ _ _; with_reducible assumption) | (refine hDu _ ?_; with_reducible assumption) | (refine hOu _ ?_; with_reducible assumption) | (refine hDa _ ?_; with_reducible assumption) | (refine hDb _ ?_; with_reducible assumption) | (refine hDc _ ?_; with_reducible assumption) | (refine hDd _ ?_; with_reducible assumption) | (refine FW.fs ?_ (by omega) _; with_reducible assumption) | (refine WS.fs ?_; with_reducible assumption) | (refine FW.fs ?_ (by omega) _; assumption) | omega | assumption)); rintro e w1 ⟨rfl, o1, n1, rfl⟩)) | (go_at_call 163; ((with_reducible refine (hcl _ ?_).mono ?_); (focus (first | (with_reducible assumption) | (with_reducible refine FS.ext ?_ _ _; with_reducible assumption) | (with_reducible refine IS.ext ?_ _ _; with_reducible assumption) | (refine hDu _ ?_; with_reducible assumption) | (refine hOu _ ?_; with_reducible assumption) | (refine hDa _ ?_; with_reducible assumption) | (refine hDb _ ?_; with_reducible assumption) | (refine hDc _ ?_; with_reducible assumption) | (refine hDd _ ?_; with_reducible assumption) | (refine FW.fs ?_ (by omega) _; with_reducible assumption) | (refine WS.fs ?_; with_reducible assumption) | (refine FW.fs ?_ (by omega) _; assumption) | omega | assumption)); rintro e w1 ⟨k, rfl, hk, hF, o2, n2, rfl⟩)))
  refine name_any (fun V hV => ?_)
  obtain ⟨p6, hp6⟩ : ∃ p, p = w.heap.size + 1 := ⟨_, rfl⟩
  obtain ⟨p8, hp8⟩ : ∃ p, p = W.heap.size + (o1.size + o2.size) := ⟨_, rfl⟩
  have gV : Grew W V := by rw [← hV]; (show Grew _ _; (try simp only [← Array.append_assoc]); repeat (first | (with_reducible exact Grew.same_o) | (with_reducible exact Grew.refl _) | (with_reducible assumption) | (with_reducible refine Grew.alloc ?_ _) | (with_reducible refine Grew.app_r ?_) | ((with_reducible refine Grew.setCell ?_ ?_ _); rotate_left; (focus (dsimp only; first | omega | (simp only [size_ext, World.size_alloc, Array.size_append]; omega)))) | (with_reducible refine Grew.ext ?_ _ _) | (with_reducible refine Grew.drewN ?_ _) | (with_reducible refine Grew.drew ?_)))
  have gw := Grew.trans g0 gV
  have Y6 : Box V p6 #[.slice none 0 0, .int .i64 0, .int .i64 0, .int .i64 0, .int .i64 0] := by rw [hp6]; exact X2.grew gV
  have Y8 : Box V p8 #[.slice (some ⟨k, 0, none⟩) (R * C) (R * C), .int .i64 0, .int .i64 R, .int .i64 C, .int .i64 LD] := by rw [← hV]; exact Box.new' (by rw [hp8]; simp only [size_ext, Array.size_append])
  simp only [ext_ext] at hF
  have hFV : FW V k N := by rw [← hV]; exact hF.grew (by (show Grew _ _; (try simp only [← Array.append_assoc]); repeat (first | (with_reducible exact Grew.same_o) | (with_reducible exact Grew.refl _) | (with_reducible assumption) | (with_reducible refine Grew.alloc ?_ _) | (with_reducible refine Grew.app_r ?_) | ((with_reducible refine Grew.setCell ?_ ?_ _); rotate_left; (focus (dsimp only; first | omega | (simp only [size_ext, World.size_alloc, Array.size_append]; omega)))) | (with_reducible refine Grew.ext ?_ _ _) | (with_reducible refine Grew.drewN ?_ _) | (with_reducible refine Grew.drew ?_))))
  have lk := hF.lt
  simp only [size_ext, Array.size_append] at lk hk
  have n6k : p6 ≠ k := by omega
  have n8k : p8 ≠ k := by omega
  have z6 : w.heap.size ≤ p6 := by omega
  have zwk : w.heap.size ≤ k := by omega
  have t8 := Y8.cell
  have l8 := Y8.lt
  have hs := hsh V k hFV zwk gw
  simp only [← hp8]
  simp only [← hp6]
  clear hV hp6 hp8 X1 X2 b1 b2 s1 s2 f1 f2 hF hgd hDW lk hk hcl hsh
  go_upto_region 9 with (first | (go_at_call 184; ((with_reducible refine (hs).mono ?_); rintro e w1 ⟨rfl, hB, L, hL, lL, hnum⟩)))
  have q8 := (Box.but' Y8 hB (by simpa using n8k)).cell
  have l8 := (Box.but' Y8 hB (by simpa using n8k)).lt
  have Y6' := Box.but' Y6 hB (by simpa using n6k)
  have q6 := Y6'.cell
  have f6 := Y6'.frozen
  have l6 := Y6'.lt
  have g1 : Grew w w1 := hB.grew0 gw (by intro q hq; simp at hq; omega)
  have HN := hid hnum
  clear hs hB hnum t8 lN
  go_wp2
  refine bodyPost_ret (v := .tuple #[.agg #[.slice (some ⟨k, 0, none⟩) (R * C) (R * C), .int .i64 0, .int .i64 R, .int .i64 C, .int .i64 LD], .int .i64 0]) (by simp [results, Try.results109, go_sem, *]) rfl ?_
  exact ⟨k, L, rfl, zwk, by (repeat (first | (with_reducible assumption) | ((with_reducible refine FW.ext_set ?_ ?_ ?_ _); rotate_left; (focus (simp only [size_setCell', World.size_alloc, size_ext, size_upd]; omega)); (focus (dsimp only; omega))) | ((with_reducible refine FW.setCell_ne ?_ ?_ _); rotate_left; (focus (dsimp only; omega))) | (with_reducible refine FW.ext ?_ _ _) | (with_reducible refine FW.alloc ?_ _))), lL, HN.out, by (show Grew _ _; repeat (first | (with_reducible exact Grew.refl _) | (with_reducible assumption) | (with_reducible exact Grew.same_o) | (with_reducible exact Grew.app_o) | (with_reducible refine Grew.ext ?_ _ _) | (with_reducible refine Grew.alloc ?_ _) | ((with_reducible refine Grew.setCell ?_ ?_ _); rotate_left; (focus (dsimp only; first | omega | (simp only [size_ext, World.size_alloc, Array.size_append]; omega)))) | (with_reducible refine Grew.drewN ?_ _) | (with_reducible refine Grew.drew ?_)))⟩
set_option maxRecDepth 100000 in
set_option maxHeartbeats 2000000 in
/-- equil.Scale, of what is no matrix. -/
theorem scale_bad (x : MatM) (D VR VC : Value) (w : World) (hD : FS w D x.ws) (hx : x.good = false) (hwf : x.wf) :
   Calls Try.prog 109 #[.agg #[D, .int .i64 x.off, .int .i64 x.rows, .int .i64 x.cols, .int .i64 x.ld], VR, VC] w (fun e w' => e = .returned (.tuple #[.agg #[.slice none 0 0, .int .i64 0, .int .i64 0, .int .i64 0, .int .i64 0], .int .i64 1]) ∧ ∃ o n, w' = ext w o n) := by
  have hgd : ∀ w', FS w' D x.ws → Calls Try.prog 130 #[.agg #[D, .int .i64 x.off, .int .i64 x.rows, .int .i64 x.cols, .int .i64 x.ld]] w' (fun e w2 => e = .returned (.bool false) ∧ ∃ o n, w2 = ext w' o n) := fun w' h => by
    have := good_any x D w' h hwf; rw [hx] at this; exact this
  clear hx hwf
  go_enter Try.func109, Try.ntmps109
  refine seq_stop ?_
  go_wp2
  refine stop_go (fun W hW => ?_)
  have s1 : w.heap.size < W.heap.size := by rw [hW]; simp only [World.size_alloc]; omega
  have b1 : ∀ i, W.cell? ⟨w.heap.size, i, none⟩ = (#[D, .int .i64 x.off, .int .i64 x.rows, .int .i64 x.cols, .int .i64 x.ld] : Array Value)[i]? := by intro i; rw [hW]; go_simp
  have X1 : Box W (w.heap.size) #[D, .int .i64 x.off, .int .i64 x.rows, .int .i64 x.cols, .int .i64 x.ld] := by rw [hW]; refine Box.grew ?_ ((Grew.refl _).alloc _); exact Box.new' (by first | rfl | (simp only [World.size_alloc]; done) | (simp only [World.size_alloc]; omega))
  have f1 : ∀ i, W.frozen? ⟨w.heap.size, i, none⟩ = false := by intro i; rw [hW]; go_simp
  have s2 : w.heap.size + 1 < W.heap.size := by rw [hW]; simp only [World.size_alloc]; omega
  have b2 : ∀ i, W.cell? ⟨w.heap.size + 1, i, none⟩ = (#[.slice none 0 0, .int .i64 0, .int .i64 0, .int .i64 0, .int .i64 0] : Array Value)[i]? := by intro i; rw [hW]; go_simp
  have X2 : Box W (w.heap.size + 1) #[.slice none 0 0, .int .i64 0, .int .i64 0, .int .i64 0, .int .i64 0] := by rw [hW]; exact Box.new' (by first | rfl | (simp only [World.size_alloc]; done) | (simp only [World.size_alloc]; omega))
  have f2 : ∀ i, W.frozen? ⟨w.heap.size + 1, i, none⟩ = false := by intro i; rw [hW]; go_simp
  have g0 : Grew w W := by rw [hW]; exact ((Grew.refl _).alloc _).alloc _
  clear hW
  have hDW := hD.grew g0
  go_wp2_with (first | (go_at_call 130; ((with_reducible refine (hgd _ ?_).mono ?_); (focus (first | (with_reducible assumption) | (with_reducible refine FS.ext ?_ _ _; with_reducible assumption) | (with_reducible refine IS.ext ?_ _ _; with_reducible assumption) | (refine hDu _ ?_; with_reducible assumption) | (refine hOu _ ?_; with_reducible assumption) | (refine hDa _ ?_; with_reducible assumption) | (refine hDb _ ?_; with_reducible assumption) | (refine hDc _ ?_; with_reducible assumption) | (refine hDd _ ?_; with_reducible assumption) | (refine FW.fs ?_ (by omega) _; with_reducible assumption) | (refine WS.fs ?_; with_reducible assumption) | (refine FW.fs ?_ (by omega) _; assumption) | omega | assumption)); rintro e w1 ⟨rfl, o1, n1, rfl⟩)))
  refine bodyPost_ret (v := .tuple #[.agg #[.slice none 0 0, .int .i64 0, .int .i64 0, .int .i64 0, .int .i64 0], .int .i64 1]) (by simp [results, Try.results109, go_sem, *]) rfl ?_
  exact ⟨rfl, by (show Grew _ _; repeat (first | (with_reducible exact Grew.refl _) | (with_reducible assumption) | (with_reducible exact Grew.same_o) | (with_reducible exact Grew.app_o) | (with_reducible refine Grew.ext ?_ _ _) | (with_reducible refine Grew.alloc ?_ _) | ((with_reducible refine Grew.setCell ?_ ?_ _); rotate_left; (focus (dsimp only; first | omega | (simp only [size_ext, World.size_alloc, Array.size_append]; omega)))) | (with_reducible refine Grew.drewN ?_ _) | (with_reducible refine Grew.drew ?_)))⟩
end Go.Proofs.Ytcmggfpcbijcjaa
end
section
/-
  Plain: a matrix scaled by its own exponents (EquilLike).
-/
set_option linter.unusedSimpArgs false
set_option linter.unusedVariables false
open Go Go.RowKit Sedge
namespace Go.Proofs.Ytcmggfpcbijcjaa
theorem best_ge {X : Nat → Nat} {e : Nat → Int} : ∀ n b, bestTo X e n = some b → ∀ k, k < n → feq0 (X k) = false → e k ≤ b
  | 0, b, h, k, hk, _ => by omega
  | n + 1, b, h, k, hk, hq => by
    unfold bestTo at h
    by_cases hz : feq0 (X n) = true
    · rw [if_pos hz] at h
      by_cases e1 : k = n
      · subst e1; rw [hz] at hq; cases hq
      · exact best_ge n b h k (by omega) hq
    · rw [if_neg hz] at h
      cases hb : bestTo X e n with
      | none =>
        rw [hb] at h; simp at h
        by_cases e1 : k = n
        · subst e1; omega
        · exfalso
          have : ∀ m, bestTo X e m = none → ∀ k, k < m → feq0 (X k) = true := fun m => by
            induction m with
            | zero => intro _ k hk; omega
            | succ m ih =>
              intro hm k hk
              unfold bestTo at hm
              by_cases hz : feq0 (X m) = true
              · rw [if_pos hz] at hm
                by_cases e2 : k = m
                · subst e2; exact hz
                · exact ih hm k (by omega)
              · rw [if_neg hz] at hm; cases hm
          have := this n hb k (by omega)
          rw [this] at hq; cases hq
      | some c =>
        rw [hb] at h; simp at h
        by_cases e1 : k = n
        · subst e1; omega
        · have := best_ge n c hb k (by omega) hq; omega
theorem best_att {X : Nat → Nat} {e : Nat → Int} : ∀ n b, bestTo X e n = some b → ∃ k, k < n ∧ feq0 (X k) = false ∧ e k = b
  | 0, b, h => by cases h
  | n + 1, b, h => by
    unfold bestTo at h
    by_cases hz : feq0 (X n) = true
    · rw [if_pos hz] at h
      obtain ⟨k, h1, h2, h3⟩ := best_att n b h
      exact ⟨k, by omega, h2, h3⟩
    · rw [if_neg hz] at h
      have hz' : feq0 (X n) = false := by simpa using hz
      cases hb : bestTo X e n with
      | none => rw [hb] at h; simp at h; exact ⟨n, by omega, hz', h⟩
      | some c =>
        rw [hb] at h; simp at h
        by_cases hc : c ≤ e n
        · exact ⟨n, by omega, hz', by omega⟩
        · obtain ⟨k, h1, h2, h3⟩ := best_att n c hb
          exact ⟨k, by omega, h2, by omega⟩
/-- At least 1. -/
def geOne (v : Nat) : Bool := D64.order v 4607182418800017408 == some .gt || D64.order v 4607182418800017408 == some .eq
theorem geOne_of {v : Nat} (h : (flt 4607182418800017408 v || feq 4607182418800017408 v) = true) (hf : fin v = true) : geOne v = true := by
  have f1 : fin 4607182418800017408 = true := by decide +kernel
  have a := order_val f1 hf
  have b := order_val hf f1
  unfold geOne
  rw [Bool.or_eq_true] at h ⊢
  rcases h with h | h
  · exact .inl (b.1.2 (a.2.2.1 h))
  · exact .inr (b.2.1.2 (a.2.1.1 h).symm)
theorem fscale_fin {x : Nat} {k : Int} (hx : x < 2 ^ 64) (hk : pKind x = 0) (h0 : pMag x ≠ 0) (h1 : -5000 ≤ k ∧ k ≤ 5000) (h : fexp x + k ≤ 0) : fin (fabs (fscale x k)) = true := by
  have ek : kcl k = k := by unfold kcl; omega
  have e : fscale x k = D64.nearest (pNeg x) (pMag x) (pExp x + k) := by unfold fscale; rw [if_pos ⟨hk, h0⟩, ek]
  have ef : fexp x = pExp x + (pMag x).log2 := by unfold fexp; rw [if_pos ⟨hk, h0⟩]
  rw [ef] at h
  obtain ⟨a1, a2, _, _⟩ := scale_small (s := pNeg x) (p := pExp x + k) h0 (pMag_lt x) (by omega)
  rw [← e] at a1 a2
  rw [(fabs_val a2).1, a1]
theorem heldZ_id {k : Int} (h : -1000000 ≤ k ∧ k ≤ 1000000) : heldZ k = k := by unfold heldZ; omega
/-- THE PLAIN LAW. -/
theorem like_law {M : Nat → Nat → Nat} {R C : Nat} (hM : ∀ i j, i < R → j < C → pKind (M i j) = 0 ∧ M i j < 2 ^ 64) (h1 : ∀ k, k < R → rowB M C k ≠ none) (h2 : ∀ k, k < C → colB M R (rowsTo' M C R) k ≠ none) {j : Nat} (hj : j < C) :
    (∀ i, i < R → flt (fabs (shF (rowsTo' M C R) (colsTo' M R (rowsTo' M C R) C) i j (M i j))) 4611686018427387904 = true) ∧ ∃ i, i < R ∧ geOne (fabs (shF (rowsTo' M C R) (colsTo' M R (rowsTo' M C R) C) i j (M i j))) = true := by
  obtain ⟨rs, hrs⟩ : ∃ rs, rs = rowsTo' M C R := ⟨_, rfl⟩
  have brs := rowsTo'_in h1
  rw [← hrs] at brs h2 ⊢
  have hcb := h2 j hj
  obtain ⟨b, hb⟩ : ∃ b, colB M R rs j = some b := by
    cases hq : colB M R rs j with
    | none => exact absurd hq hcb
    | some b => exact ⟨b, rfl⟩
  have ec : (colsTo' M R rs C).getD j 0 = -b := by
    unfold colsTo'
    rw [List.getD_eq_getElem?_getD, List.getElem?_map, List.getElem?_range hj]
    show -(bestI (colB M R rs j)) = -b
    rw [hb]; rfl
  have hbr : -100000 ≤ b ∧ b ≤ 100000 := bestTo_in (fun k => by have := fexp_range' (M k j); have := brs k; omega) R b hb
  have hatt := best_att R b hb
  have hge := best_ge R b hb
  have hbr2 : -3000 ≤ b ∧ b ≤ 3000 := by
    obtain ⟨k, _, _, h⟩ := hatt
    have := fexp_range' (M k j)
    have := brs k
    omega
  have hk : ∀ i, heldZ (heldZ (rs.getD i 0) + heldZ ((colsTo' M R rs C).getD j 0)) = rs.getD i 0 + -b := fun i => by
    have := brs i
    have e1 := heldZ_id (k := rs.getD i 0) (by omega)
    have e2 := heldZ_id (k := -b) (by omega)
    rw [ec, e1, e2, heldZ_id (by omega)]
  constructor
  · intro i hi
    obtain ⟨m1, m2⟩ := hM i j hi hj
    unfold shF
    rw [hk i]
    by_cases hz : pMag (M i j) = 0
    · have e : fscale (M i j) (rs.getD i 0 + -b) = M i j := by unfold fscale; rw [if_neg (fun h => h.2 hz)]
      rw [e]
      obtain ⟨c1, c2, c3⟩ := parts_abs (M i j)
      have hf : fin (M i j) = true := by rw [fin_kind m2]; simpa using m1
      obtain ⟨b1, b2⟩ := fabs_val m2
      rw [hf] at b1
      have v0 : val (M i j) = 0 := by
        have hr : D64.read (M i j) = .number (pNeg (M i j)) (pMag (M i j)) (pExp (M i j)) := by rw [read_eq _ m2, if_pos m1]
        rw [val_of hr, hz, dat_zero]
      have f2 : fin 4611686018427387904 = true := by decide +kernel
      rw [(order_val b1 f2).2.2, b2 hf, v0]
      decide +kernel
    · have hq : feq0 (M i j) = false := by unfold feq0; rw [ord_zero_eq _ m2 m1]; simpa using hz
      have h3 := hge i hi hq
      have := brs i
      exact (fscale_small m2 m1 hz (by omega) (by omega)).1
  · obtain ⟨i, hi, hq, he⟩ := hatt
    obtain ⟨m1, m2⟩ := hM i j hi hj
    have hz : pMag (M i j) ≠ 0 := by
      intro h
      unfold feq0 at hq
      rw [ord_zero_eq _ m2 m1, h] at hq
      cases hq
    refine ⟨i, hi, ?_⟩
    unfold shF
    rw [hk i]
    have := brs i
    have hs := fscale_small (k := rs.getD i 0 + -b) m2 m1 hz (by omega) (by omega)
    refine geOne_of (hs.2 (by omega)) ?_
    exact fscale_fin m2 m1 hz (by omega) (by omega)
end Go.Proofs.Ytcmggfpcbijcjaa
end
section
/-
  The walk of the law EquilLike (layer 15).
-/
set_option linter.unusedSimpArgs false
set_option linter.unusedVariables false
open Go Go.RowKit Sedge
namespace Go.Proofs.Ytcmggfpcbijcjaa
theorem badE_ne (g : Bool) : (badE g != 0) = true := by cases g <;> rfl
theorem finL_at {ws : List Nat} (h : finL ws = true) {k : Nat} (hk : k < ws.length) : pKind (ws.getD k 0) = 0 := by
  have := (finL_iff ws).1 h k hk
  unfold finB at this; simpa using this
set_option maxRecDepth 100000 in
set_option maxHeartbeats 8000000 in
theorem like_main (x : MatM) (D : Value) (R C : Nat) (w : World) (hD : FS w D x.ws) (hwf : x.wf) (hR : x.rows = R) (hC : x.cols = C) (hr : R ≤ 20) (hc : C ≤ 20) (hll : x.ws.length ≤ 1000) (hgo : x.good = true) (hfi : finL (numL x) = true) (hg : MatM.great x = false) :
    Calls Try.prog 21 #[.agg #[D, .int .i64 x.off, .int .i64 x.rows, .int .i64 x.cols, .int .i64 x.ld]] w (fun e w' => e = .returned (.bool true) ∧ ∃ o n, w' = ext w o n) := by
  have hgt : ∀ w', FS w' D x.ws → Calls Try.prog 42 #[.agg #[D, .int .i64 x.off, .int .i64 x.rows, .int .i64 x.cols, .int .i64 x.ld]] w' (fun e w2 => e = .returned (.bool false) ∧ ∃ o n, w2 = ext w' o n) := fun w' h => by
    have := great_any x D w' h; rw [hg] at this; exact this
  have hef := fun w' h => efact_ok x D R C w' h hgo hwf (by omega) hR hC (by omega) (by omega) hfi
  have hsc := fun VR VC rs cs w' h a b c d => scale_ok x D VR VC rs cs R C w' h hgo hwf (by omega) hR hC (by omega) (by omega) a b c d
  have hfin : ∀ i j, i < R → j < C → pKind (x.num i j) = 0 := fun i j hi hj => by
    rw [← numL_at x hR hC hi hj]
    exact finL_at hfi (by rw [numL_length, hR, hC]; exact place_lt2 hi hj)
  have hlt : ∀ i j, i < R → j < C → x.num i j < 2 ^ 64 := fun i j hi hj => by
    obtain ⟨blk, o, cap, rfl, hblk, hcw⟩ := hD.open (by have := MatM.good_place hgo (i := i) (j := j) (by omega) (by omega); omega)
    obtain ⟨b, _, hf⟩ := hcw (x.place i j) (by have := MatM.good_place hgo (i := i) (j := j) (by omega) (by omega); unfold MatM.place; omega)
    exact hf.lt
  have hlaw := fun h1 h2 j hj => like_law (M := x.num) (R := R) (C := C) (fun i j hi hj => ⟨hfin i j hi hj, hlt i j hi hj⟩) h1 h2 (j := j) hj
  rw [hR, hC] at hgt ⊢
  obtain ⟨M, hM⟩ : ∃ M, M = x.num := ⟨_, rfl⟩
  rw [← hM] at hef hsc hlaw
  have HLAW := hid hlaw
  have hm20 : R * C ≤ 20 * 20 := Nat.mul_le_mul hr hc
  obtain ⟨LD, hLD⟩ : ∃ LD, LD = max R 1 := ⟨_, rfl⟩
  rw [← hLD] at hsc
  have eLD : R ≤ LD ∧ 1 ≤ LD ∧ LD ≤ 20 ∧ (0 < R → LD = R) := by omega
  have HLD := hid hLD
  clear hwf hR hC hgo hfi hg hfin hlt hlaw hM hLD
  go_enter Try.func21, Try.ntmps21
  refine seq_stop ?_
  go_wp2
  refine stop_go (fun W hW => ?_)
  have s1 : w.heap.size < W.heap.size := by rw [hW]; simp only [World.size_alloc]; omega
  have b1 : ∀ i, W.cell? ⟨w.heap.size, i, none⟩ = (#[D, .int .i64 x.off, .int .i64 R, .int .i64 C, .int .i64 x.ld] : Array Value)[i]? := by intro i; rw [hW]; go_simp
  have g0 : Grew w W := by rw [hW]; exact (Grew.refl _).alloc _
  clear hW
  have hDW := hD.grew g0
  go_upto_region 6 with (first | (go_at_call 101; ((with_reducible refine (awake15 _).mono ?_); rintro e w1 ⟨rfl, o1, n1, rfl⟩)) | (go_at_call 42; ((with_reducible refine (hgt _ ?_).mono ?_); (focus (first | (with_reducible assumption) | (with_reducible refine FS.ext ?_ _ _; with_reducible assumption) | (with_reducible refine IS.ext ?_ _ _; with_reducible assumption) | (refine hDu _ ?_; with_reducible assumption) | (refine hOu _ ?_; with_reducible assumption) | (refine hDa _ ?_; with_reducible assumption) | (refine hDb _ ?_; with_reducible assumption) | (refine hDc _ ?_; with_reducible assumption) | (refine hDd _ ?_; with_reducible assumption) | (refine FW.fs ?_ (by omega) _; with_reducible assumption) | (refine WS.fs ?_; with_reducible assumption) | (refine FW.fs ?_ (by omega) _; assumption) | omega | assumption)); rintro e w1 ⟨rfl, o1, n1, rfl⟩)) | (go_at_call 102; ((with_reducible refine (hef _ ?_).mono ?_); (focus (first | (with_reducible assumption) | (with_reducible refine FS.ext ?_ _ _; with_reducible assumption) | (with_reducible refine IS.ext ?_ _ _; with_reducible assumption) | (refine hDu _ ?_; with_reducible assumption) | (refine hOu _ ?_; with_reducible assumption) | (refine hDa _ ?_; with_reducible assumption) | (refine hDb _ ?_; with_reducible assumption) | (refine hDc _ ?_; with_reducible assumption) | (refine hDd _ ?_; with_reducible assumption) | (refine FW.fs ?_ (by omega) _; with_reducible assumption) | (refine WS.fs ?_; with_reducible assumption) | (refine FW.fs ?_ (by omega) _; assumption) | omega | assumption)); rintro e w1 ⟨v1, v2, a, rs, cs, rfl, hO, hv1, hv2, o1, n1, rfl⟩; (try simp only [drew_ext, drewN_ext, ext_ext] at hv1 hv2))))
  by_cases ha : a = 0
  · subst ha
    have e0 : errF 0 = 0 := rfl
    obtain ⟨h1, h2, _, rfl, rfl⟩ : (∀ k, k < R → rowB M C k ≠ none) ∧ (∀ k, k < C → colB M R (rowsTo' M C R) k ≠ none) ∧ True ∧ rs = rowsTo' M C R ∧ cs = colsTo' M R (rowsTo' M C R) C := by
      rcases hO with ⟨i, _, h, _⟩ | ⟨_, j, _, h, _⟩ | ⟨h1, h2, _, h3, h4⟩
      · omega
      · omega
      · exact ⟨h1, h2, trivial, h3, h4⟩
    have hlw := HLAW.out h1 h2
    obtain ⟨rs, hrs⟩ : ∃ rs, rs = rowsTo' M C R := ⟨_, rfl⟩
    have lrs : rs.length = R := by rw [hrs, rowsTo'_length]
    rw [← hrs] at hlw hv1 hv2
    obtain ⟨cs, hcs⟩ : ∃ cs, cs = colsTo' M R rs C := ⟨_, rfl⟩
    have lcs : cs.length = C := by rw [hcs, colsTo'_length]
    rw [← hcs] at hlw hv2
    have HLW := hid hlw
    clear hO h1 h2 hlw HLAW hrs hcs hef hgt
    go_upto_region 8 with fail
    refine name_any (fun V0 hV0 => ?_)
    obtain ⟨p1, hp1⟩ : ∃ p, p = w.heap.size := ⟨_, rfl⟩
    have gV0 : Grew W V0 := by rw [← hV0]; (show Grew _ _; (try simp only [← Array.append_assoc]); repeat (first | (with_reducible exact Grew.same_o) | (with_reducible exact Grew.refl _) | (with_reducible assumption) | (with_reducible refine Grew.alloc ?_ _) | (with_reducible refine Grew.app_r ?_) | ((with_reducible refine Grew.setCell ?_ ?_ _); rotate_left; (focus (dsimp only; first | omega | (simp only [size_ext, World.size_alloc, Array.size_append]; omega)))) | (with_reducible refine Grew.ext ?_ _ _) | (with_reducible refine Grew.drewN ?_ _) | (with_reducible refine Grew.drew ?_)))
    have gw0 := Grew.trans g0 gV0
    have hDV := hD.grew gw0
    have hv1' : IS .i64 V0 v1 rs := hv1.grew (by rw [← hV0]; (show Grew _ _; (try simp only [← Array.append_assoc]); repeat (first | (with_reducible exact Grew.same_o) | (with_reducible exact Grew.refl _) | (with_reducible assumption) | (with_reducible refine Grew.alloc ?_ _) | (with_reducible refine Grew.app_r ?_) | ((with_reducible refine Grew.setCell ?_ ?_ _); rotate_left; (focus (dsimp only; first | omega | (simp only [size_ext, World.size_alloc, Array.size_append]; omega)))) | (with_reducible refine Grew.ext ?_ _ _) | (with_reducible refine Grew.drewN ?_ _) | (with_reducible refine Grew.drew ?_))))
    have hv2' : IS .i64 V0 v2 cs := hv2.grew (by rw [← hV0]; (show Grew _ _; (try simp only [← Array.append_assoc]); repeat (first | (with_reducible exact Grew.same_o) | (with_reducible exact Grew.refl _) | (with_reducible assumption) | (with_reducible refine Grew.alloc ?_ _) | (with_reducible refine Grew.app_r ?_) | ((with_reducible refine Grew.setCell ?_ ?_ _); rotate_left; (focus (dsimp only; first | omega | (simp only [size_ext, World.size_alloc, Array.size_append]; omega)))) | (with_reducible refine Grew.ext ?_ _ _) | (with_reducible refine Grew.drewN ?_ _) | (with_reducible refine Grew.drew ?_))))
    have t1 : ∀ w', Grew V0 w' → ∀ i, w'.cell? ⟨p1, i, none⟩ = (#[D, .int .i64 x.off, .int .i64 R, .int .i64 C, .int .i64 x.ld] : Array Value)[i]? := fun w' g i => by rw [hp1]; exact ((Grew.trans gV0 g).cell s1).trans (b1 i)
    have l1 : p1 < V0.heap.size := by have := gV0.below.size; omega
    have q1 := t1 V0 (Grew.refl _)
    simp only [← hp1]
    clear hV0 hv1 hv2 hp1 b1 s1
    go_upto_region 9 with (first | (go_at_call 109; ((with_reducible refine (hsc _ _ rs cs _ ?_ (hv1'.grew (by (show Grew _ _; (try simp only [← Array.append_assoc]); repeat (first | (with_reducible exact Grew.same_o) | (with_reducible exact Grew.refl _) | (with_reducible assumption) | (with_reducible refine Grew.alloc ?_ _) | (with_reducible refine Grew.app_r ?_) | ((with_reducible refine Grew.setCell ?_ ?_ _); rotate_left; (focus (dsimp only; first | omega | (simp only [size_ext, World.size_alloc, Array.size_append]; omega)))) | (with_reducible refine Grew.ext ?_ _ _) | (with_reducible refine Grew.drewN ?_ _) | (with_reducible refine Grew.drew ?_))))) (hv2'.grew (by (show Grew _ _; (try simp only [← Array.append_assoc]); repeat (first | (with_reducible exact Grew.same_o) | (with_reducible exact Grew.refl _) | (with_reducible assumption) | (with_reducible refine Grew.alloc ?_ _) | (with_reducible refine Grew.app_r ?_) | ((with_reducible refine Grew.setCell ?_ ?_ _); rotate_left; (focus (dsimp only; first | omega | (simp only [size_ext, World.size_alloc, Array.size_append]; omega)))) | (with_reducible refine Grew.ext ?_ _ _) | (with_reducible refine Grew.drewN ?_ _) | (with_reducible refine Grew.drew ?_))))) lrs lcs).mono ?_); (focus (first | (with_reducible assumption) | (with_reducible refine FS.ext ?_ _ _; with_reducible assumption) | (with_reducible refine IS.ext ?_ _ _; with_reducible assumption) | (refine hDu _ ?_; with_reducible assumption) | (refine hOu _ ?_; with_reducible assumption) | (refine hDa _ ?_; with_reducible assumption) | (refine hDb _ ?_; with_reducible assumption) | (refine hDc _ ?_; with_reducible assumption) | (refine hDd _ ?_; with_reducible assumption) | (refine FW.fs ?_ (by omega) _; with_reducible assumption) | (refine WS.fs ?_; with_reducible assumption) | (refine FW.fs ?_ (by omega) _; assumption) | omega | assumption)); rintro e w1 ⟨k, L, rfl, hk, hF, lL, hnum, o1, n1, rfl⟩)))
    clear q1
    refine name_any (fun V hV => ?_)
    obtain ⟨p7, hp7⟩ : ∃ p, p = V0.heap.size + o1.size := ⟨_, rfl⟩
    have gV : Grew V0 V := by rw [← hV]; (show Grew _ _; (try simp only [← Array.append_assoc]); repeat (first | (with_reducible exact Grew.same_o) | (with_reducible exact Grew.refl _) | (with_reducible assumption) | (with_reducible refine Grew.alloc ?_ _) | (with_reducible refine Grew.app_r ?_) | ((with_reducible refine Grew.setCell ?_ ?_ _); rotate_left; (focus (dsimp only; first | omega | (simp only [size_ext, World.size_alloc, Array.size_append]; omega)))) | (with_reducible refine Grew.ext ?_ _ _) | (with_reducible refine Grew.drewN ?_ _) | (with_reducible refine Grew.drew ?_)))
    have Y7 : Box V p7 #[.slice (some ⟨k, 0, none⟩) (R * C) (R * C), .int .i64 0, .int .i64 R, .int .i64 C, .int .i64 LD] := by rw [← hV]; exact Box.new' (by rw [hp7]; simp only [size_ext])
    have hFV : FW V k L := by rw [← hV]; exact hF.grew (by (show Grew _ _; (try simp only [← Array.append_assoc]); repeat (first | (with_reducible exact Grew.same_o) | (with_reducible exact Grew.refl _) | (with_reducible assumption) | (with_reducible refine Grew.alloc ?_ _) | (with_reducible refine Grew.app_r ?_) | ((with_reducible refine Grew.setCell ?_ ?_ _); rotate_left; (focus (dsimp only; first | omega | (simp only [size_ext, World.size_alloc, Array.size_append]; omega)))) | (with_reducible refine Grew.ext ?_ _ _) | (with_reducible refine Grew.drewN ?_ _) | (with_reducible refine Grew.drew ?_))))
    have gw : Grew w V := Grew.trans gw0 gV
    have q1 := t1 V gV
    have q7 := Y7.cell
    have l7 := Y7.lt
    have l1V : p1 < V.heap.size := Nat.lt_of_lt_of_le l1 gV.below.size
    simp only [← hp7]
    have hgy : MatM.good ⟨L, 0, R, C, LD⟩ = true := by rw [HLD.out]; exact matd_goodA lL
    have hwy : MatM.wf ⟨L, 0, R, C, LD⟩ := by simp [MatM.wf, I64]; omega
    have hfs : ∀ w', Grew V w' → FS w' (.slice (some ⟨k, 0, none⟩) (R * C) (R * C)) L := fun w' g => by have := (hFV.grew g).fs (by omega) (R * C); rw [lL] at this; exact this
    have hgd2 : ∀ w', Grew V w' → Calls Try.prog 46 #[.agg #[.slice (some ⟨k, 0, none⟩) (R * C) (R * C), .int .i64 0, .int .i64 R, .int .i64 C, .int .i64 LD]] w' (fun e w2 => e = .returned (.bool true) ∧ ∃ o n, w2 = ext w' o n) := fun w' g => by
      have := rgood_any ⟨L, 0, R, C, LD⟩ _ w' (hfs w' g) hwy; rw [hgy] at this; exact this
    have hof2 : ∀ w', Grew V w' → Calls Try.prog 48 #[.agg #[.slice (some ⟨k, 0, none⟩) (R * C) (R * C), .int .i64 0, .int .i64 R, .int .i64 C, .int .i64 LD]] w' (fun e w2 => ∃ v, e = .returned (.agg #[.int .i64 R, .int .i64 C, v]) ∧ FS w2 v (MatM.tab ⟨L, 0, R, C, LD⟩) ∧ ∃ o n, w2 = ext w' o n) := fun w' g => by
      refine (rof_any ⟨L, 0, R, C, LD⟩ _ w' (hfs w' g) hgy (by show (R : Int) ≤ 1000; omega) (by show (C : Int) ≤ 1000; omega) (by show L.length ≤ _; omega) hwy).mono fun e w2 hh => ?_
      obtain ⟨v, rfl, r1, r2⟩ := hh
      exact ⟨v, rfl, r1.fs, r2⟩
    have htab : ∀ i j, i < R → j < C → (MatM.tab ⟨L, 0, R, C, LD⟩).getD (i * C + j) 0 = shF rs cs i j (M i j) := fun i j hi hj => by
      have h := (MatM.tab_hold ⟨L, 0, R, C, LD⟩).get i j hi hj
      have e2 : MatM.num ⟨L, 0, R, C, LD⟩ i j = L.getD (i + j * R) 0 := by
        unfold MatM.num
        rw [eLD.2.2.2 (by omega), matd_place]
      rw [e2, hnum i j hi hj] at h
      exact h
    have ltab : (MatM.tab ⟨L, 0, R, C, LD⟩).length = R * C := by rw [MatM.tab_length]; rfl
    obtain ⟨TB, hTB⟩ : ∃ TB, TB = MatM.tab ⟨L, 0, R, C, LD⟩ := ⟨_, rfl⟩
    rw [← hTB] at hof2 htab ltab
    have HT := hid htab
    clear hV hp7 hF hTB htab hnum hgy hwy hfs hsc hv1' hv2' hDV Y7 hk t1
    go_upto_region 12 with (first | (go_at_call 46; ((with_reducible refine (hgd2 _ (by (show Grew _ _; (try simp only [← Array.append_assoc]); repeat (first | (with_reducible exact Grew.same_o) | (with_reducible exact Grew.refl _) | (with_reducible assumption) | (with_reducible refine Grew.alloc ?_ _) | (with_reducible refine Grew.app_r ?_) | ((with_reducible refine Grew.setCell ?_ ?_ _); rotate_left; (focus (dsimp only; first | omega | (simp only [size_ext, World.size_alloc, Array.size_append]; omega)))) | (with_reducible refine Grew.ext ?_ _ _) | (with_reducible refine Grew.drewN ?_ _) | (with_reducible refine Grew.drew ?_))))).mono ?_); rintro e w1 ⟨rfl, o2, n2, rfl⟩)) | (go_at_call 48; ((with_reducible refine (hof2 _ (by (show Grew _ _; (try simp only [← Array.append_assoc]); repeat (first | (with_reducible exact Grew.same_o) | (with_reducible exact Grew.refl _) | (with_reducible assumption) | (with_reducible refine Grew.alloc ?_ _) | (with_reducible refine Grew.app_r ?_) | ((with_reducible refine Grew.setCell ?_ ?_ _); rotate_left; (focus (dsimp only; first | omega | (simp only [size_ext, World.size_alloc, Array.size_append]; omega)))) | (with_reducible refine Grew.ext ?_ _ _) | (with_reducible refine Grew.drewN ?_ _) | (with_reducible refine Grew.drew ?_))))).mono ?_); rintro e w1 ⟨v, rfl, hv, o3, n3, rfl⟩; (obtain ⟨va, vc, rfl⟩ := hv.shape); (rw [ltab] at hv); (try simp only [drew_ext, drewN_ext, ext_ext] at hv))))
    refine name_any (fun U hU => ?_)
    obtain ⟨p9, hp9⟩ : ∃ p, p = V.heap.size + (o2.size + o3.size) := ⟨_, rfl⟩
    have gU : Grew V U := by rw [← hU]; (show Grew _ _; (try simp only [← Array.append_assoc]); repeat (first | (with_reducible exact Grew.same_o) | (with_reducible exact Grew.refl _) | (with_reducible assumption) | (with_reducible refine Grew.alloc ?_ _) | (with_reducible refine Grew.app_r ?_) | ((with_reducible refine Grew.setCell ?_ ?_ _); rotate_left; (focus (dsimp only; first | omega | (simp only [size_ext, World.size_alloc, Array.size_append]; omega)))) | (with_reducible refine Grew.ext ?_ _ _) | (with_reducible refine Grew.drewN ?_ _) | (with_reducible refine Grew.drew ?_)))
    have Y9 : Box U p9 #[.int .i64 R, .int .i64 C, .slice va (R * C) vc] := by rw [← hU]; exact Box.new' (by rw [hp9]; simp only [size_ext, Array.size_append])
    have hvU : FS U (.slice va (R * C) vc) TB := by rw [← hU]; exact hv.grew (by (show Grew _ _; (try simp only [← Array.append_assoc]); repeat (first | (with_reducible exact Grew.same_o) | (with_reducible exact Grew.refl _) | (with_reducible assumption) | (with_reducible refine Grew.alloc ?_ _) | (with_reducible refine Grew.app_r ?_) | ((with_reducible refine Grew.setCell ?_ ?_ _); rotate_left; (focus (dsimp only; first | omega | (simp only [size_ext, World.size_alloc, Array.size_append]; omega)))) | (with_reducible refine Grew.ext ?_ _ _) | (with_reducible refine Grew.drewN ?_ _) | (with_reducible refine Grew.drew ?_))))
    have gwU := Grew.trans gw gU
    have hAt : ∀ (i j : Nat) w', i < R → j < C → Grew U w' → Calls Try.prog 72 #[.agg #[.int .i64 R, .int .i64 C, .slice va (R * C) vc], .int .i64 i, .int .i64 j] w' (fun e w2 => ∃ b, e = .returned (.float .f64 b) ∧ IsF b (shF rs cs i j (M i j)) ∧ ∃ o n, w2 = ext w' o n) := fun i j w' hi hj gg => by
      have hk2 : i * C + j < R * C := at_lt hi hj
      have h := rat_any R C i j (.slice va (R * C) vc) TB w' (hvU.grew gg) (by omega) (by omega) (by omega) (by omega) (by omega)
      rw [HT.out i j hi hj] at h
      exact h
    have hlw2 : ∀ r i j, i < R → j < C → IsF r (fabs (shF rs cs i j (M i j))) → (FloatKind.f64.format.order r 4611686018427387904 == some Ordering.lt) = true := fun r i j hi hj h => by
      have h2 := (HLW.out j hj).1 i hi
      have h3 : FloatKind.f64.format.order r 4611686018427387904 = D64.order (fabs (shF rs cs i j (M i j))) 4611686018427387904 := h.order (by decide +kernel)
      rw [h3]; exact h2
    have hge2 : ∀ r i j, IsF r (fabs (shF rs cs i j (M i j))) → (FloatKind.f64.format.order r 4607182418800017408 == some Ordering.gt || FloatKind.f64.format.order r 4607182418800017408 == some Ordering.eq) = geOne (fabs (shF rs cs i j (M i j))) := fun r i j h => by
      have h3 : FloatKind.f64.format.order r 4607182418800017408 = D64.order (fabs (shF rs cs i j (M i j))) 4607182418800017408 := h.order (by decide +kernel)
      rw [h3]; rfl
    obtain ⟨S, hS⟩ : ∃ S : Nat → Nat → Bool, S = fun j i => (List.range i).any fun a => geOne (fabs (shF rs cs a j (M a j))) := ⟨_, rfl⟩
    have hS0 : ∀ j, S j 0 = false := fun j => by rw [hS]; rfl
    have hS1 : ∀ j i, S j (i + 1) = (S j i || geOne (fabs (shF rs cs i j (M i j)))) := fun j i => by rw [hS]; simp [List.range_succ]
    have hSR : ∀ j, j < C → S j R = true := fun j hj => by
      obtain ⟨i, hi, h⟩ := (HLW.out j hj).2
      rw [hS]
      simp only [List.any_eq_true, List.mem_range]
      exact ⟨i, hi, h⟩
    have HS0 := hid hS0
    have HS1 := hid hS1
    have HSR := hid hSR
    have HL2 := hid hlw2
    have HG2 := hid hge2
    simp only [← hp9]
    clear hU hp9 hv hS hS0 hS1 hSR hlw2 hge2 HT hvU hgd2 hof2 HLW HLD q1 q7 l7 l1V eLD
    go_wp2
    go_loopw [10] (fun c wr => ∃ (j : Nat), j ≤ C ∧ c = .int .i64 j ∧ Grew U wr) (fun c _ => C - (intOf c).toNat)
    case atStart => exact ⟨0, Nat.zero_le _, rfl, Grew.refl _⟩
    case round =>
      obtain ⟨j, hj, rfl, gr⟩ := hrel
      have t9 := (Y9.grew gr).cell
      have l9 := (Y9.grew gr).lt
      by_cases hjl : j < C
      · by_cases hR0 : 0 < R
        · have d0 : decide ((0 : Int) < (R : Int)) = true := by simp; omega
          go_wp2
          obtain ⟨V2, rfl⟩ : ∃ V2, V2 = wr := ⟨_, rfl⟩
          go_loopw [11, 12] (fun sm c wx => ∃ (i : Nat), i ≤ R ∧ c = .int .i64 i ∧ sm = .bool (S j i) ∧ Grew U wx) (fun _ c _ => R - (intOf c).toNat)
          case atStart => exact ⟨0, Nat.zero_le _, rfl, by rw [HS0.out], gr⟩
          case round =>
            obtain ⟨i, hi, rfl, rfl, gx⟩ := hrel
            have tX := (Y9.grew gx).cell
            have lX := (Y9.grew gx).lt
            by_cases hil : i < R
            · have hA := fun w' g => hAt i j w' hil hjl (Grew.trans gx g)
              have hl2 := fun r h => HL2.out r i j hil hjl h
              have hg2 := fun r h => HG2.out r i j h
              have hs1 := HS1.out j i
              obtain ⟨F, hF2⟩ : ∃ F, F = shF rs cs i j (M i j) := ⟨_, rfl⟩
              rw [← hF2] at hA hl2 hg2 hs1
              have HS := hid hs1
              clear hs1 hF2
              go_upto_region 20 with (first | (go_at_call 72; ((with_reducible refine (hA _ (by (show Grew _ _; (try simp only [← Array.append_assoc]); repeat (first | (with_reducible exact Grew.same_o) | (with_reducible exact Grew.refl _) | (with_reducible assumption) | (with_reducible refine Grew.alloc ?_ _) | (with_reducible refine Grew.app_r ?_) | ((with_reducible refine Grew.setCell ?_ ?_ _); rotate_left; (focus (dsimp only; first | omega | (simp only [size_ext, World.size_alloc, Array.size_append]; omega)))) | (with_reducible refine Grew.ext ?_ _ _) | (with_reducible refine Grew.drewN ?_ _) | (with_reducible refine Grew.drew ?_))))).mono ?_); rintro e w1 ⟨b, rfl, hb, o4, n4, rfl⟩)) | (go_at_call 110; ((with_reducible refine (abs_any _ _ _ hb).mono ?_); rintro e w9 ⟨r, rfl, hr, rfl⟩)))
              have q2 := hl2 r hr
              have q3 := hg2 r hr
              clear hl2 hg2 hA
              cases hsm : S j i
              · go_wp2
                go_roundw
                case rel => exact ⟨i + 1, hil, by go_num, by rw [HS.out, hsm]; rfl, Grew.trans gx (by (show Grew _ _; (try simp only [← Array.append_assoc]); repeat (first | (with_reducible exact Grew.same_o) | (with_reducible exact Grew.refl _) | (with_reducible assumption) | (with_reducible refine Grew.alloc ?_ _) | (with_reducible refine Grew.app_r ?_) | ((with_reducible refine Grew.setCell ?_ ?_ _); rotate_left; (focus (dsimp only; first | omega | (simp only [size_ext, World.size_alloc, Array.size_append]; omega)))) | (with_reducible refine Grew.ext ?_ _ _) | (with_reducible refine Grew.drewN ?_ _) | (with_reducible refine Grew.drew ?_))))⟩
                case measure => simp [intOf]; omega
              · go_wp2
                go_roundw
                case rel => exact ⟨i + 1, hil, by go_num, by rw [HS.out, hsm]; rfl, Grew.trans gx (by (show Grew _ _; (try simp only [← Array.append_assoc]); repeat (first | (with_reducible exact Grew.same_o) | (with_reducible exact Grew.refl _) | (with_reducible assumption) | (with_reducible refine Grew.alloc ?_ _) | (with_reducible refine Grew.app_r ?_) | ((with_reducible refine Grew.setCell ?_ ?_ _); rotate_left; (focus (dsimp only; first | omega | (simp only [size_ext, World.size_alloc, Array.size_append]; omega)))) | (with_reducible refine Grew.ext ?_ _ _) | (with_reducible refine Grew.drewN ?_ _) | (with_reducible refine Grew.drew ?_))))⟩
                case measure => simp [intOf]; omega
            · have e : i = R := by omega
              have hsr := HSR.out j hjl
              rw [← e] at hsr
              rw [hsr]
              subst e
              go_wp2
              go_roundw
              case rel => exact ⟨j + 1, hjl, by go_num, gx⟩
              case measure => simp [intOf]; omega
        · have d0 : decide ((0 : Int) < (R : Int)) = false := by simp; omega
          go_wp2_with (first | (go_at_call 101; ((with_reducible refine (awake15 _).mono ?_); rintro e w9 ⟨rfl, o9, n9, rfl⟩)))
          go_ret
          exact ⟨rfl, Grew.trans gwU (Grew.trans gr (by (show Grew _ _; (try simp only [← Array.append_assoc]); repeat (first | (with_reducible exact Grew.same_o) | (with_reducible exact Grew.refl _) | (with_reducible assumption) | (with_reducible refine Grew.alloc ?_ _) | (with_reducible refine Grew.app_r ?_) | ((with_reducible refine Grew.setCell ?_ ?_ _); rotate_left; (focus (dsimp only; first | omega | (simp only [size_ext, World.size_alloc, Array.size_append]; omega)))) | (with_reducible refine Grew.ext ?_ _ _) | (with_reducible refine Grew.drewN ?_ _) | (with_reducible refine Grew.drew ?_)))))⟩
      · have e : j = C := by omega
        subst e
        go_wp2_with (first | (go_at_call 101; ((with_reducible refine (awake15 _).mono ?_); rintro e w9 ⟨rfl, o9, n9, rfl⟩)))
        go_ret
        exact ⟨rfl, Grew.trans gwU (Grew.trans gr (by (show Grew _ _; (try simp only [← Array.append_assoc]); repeat (first | (with_reducible exact Grew.same_o) | (with_reducible exact Grew.refl _) | (with_reducible assumption) | (with_reducible refine Grew.alloc ?_ _) | (with_reducible refine Grew.app_r ?_) | ((with_reducible refine Grew.setCell ?_ ?_ _); rotate_left; (focus (dsimp only; first | omega | (simp only [size_ext, World.size_alloc, Array.size_append]; omega)))) | (with_reducible refine Grew.ext ?_ _ _) | (with_reducible refine Grew.drewN ?_ _) | (with_reducible refine Grew.drew ?_)))))⟩
  · have e4 : errF a = 4 := by unfold errF; rw [if_neg ha]
    clear hO hef hgt hsc HLAW ha
    go_wp2_with (first | (go_at_call 101; ((with_reducible refine (awake15 _).mono ?_); rintro e w9 ⟨rfl, o9, n9, rfl⟩)))
    go_ret
    exact ⟨rfl, by (show Grew _ _; repeat (first | (with_reducible exact Grew.refl _) | (with_reducible assumption) | (with_reducible exact Grew.same_o) | (with_reducible exact Grew.app_o) | (with_reducible refine Grew.ext ?_ _ _) | (with_reducible refine Grew.alloc ?_ _) | ((with_reducible refine Grew.setCell ?_ ?_ _); rotate_left; (focus (dsimp only; first | omega | (simp only [size_ext, World.size_alloc, Array.size_append]; omega)))) | (with_reducible refine Grew.drewN ?_ _) | (with_reducible refine Grew.drew ?_)))⟩
set_option maxRecDepth 100000 in
set_option maxHeartbeats 8000000 in
theorem equilLike_any (x : MatM) (D : Value) (w : World) (hD : FS w D x.ws) (hwf : x.wf) :
    Calls Try.prog 21 #[.agg #[D, .int .i64 x.off, .int .i64 x.rows, .int .i64 x.cols, .int .i64 x.ld]] w (fun e w' => e = .returned (.bool true) ∧ ∃ o n, w' = ext w o n) := by
  have hgt : ∀ w', FS w' D x.ws → Calls Try.prog 42 #[.agg #[D, .int .i64 x.off, .int .i64 x.rows, .int .i64 x.cols, .int .i64 x.ld]] w' (fun e w2 => e = .returned (.bool (MatM.great x)) ∧ ∃ o n, w2 = ext w' o n) := fun w' h => great_any x D w' h
  cases hg : MatM.great x
  · have hll : x.ws.length ≤ 1000 ∧ x.rows ≤ 20 ∧ x.cols ≤ 20 := by
      have hg2 := hg
      unfold MatM.great at hg2
      simp only [Bool.or_eq_false_iff, decide_eq_false_iff_not] at hg2
      omega
    by_cases hb : x.good = false ∨ finL (numL x) = false
    · have hef : ∀ w', FS w' D x.ws → Calls Try.prog 102 #[.agg #[D, .int .i64 x.off, .int .i64 x.rows, .int .i64 x.cols, .int .i64 x.ld]] w' (fun e w2 => e = .returned (.tuple #[.slice none 0 0, .slice none 0 0, .int .i64 0, .int .i64 (badE x.good)]) ∧ ∃ o n, w2 = ext w' o n) := fun w' h => efact_bad x D w' h hwf (by omega) (by omega) (by omega) hb
      obtain ⟨E, hE⟩ : ∃ E, E = badE x.good := ⟨_, rfl⟩
      have d1 : (E != 0) = true := by rw [hE]; exact badE_ne _
      rw [hg] at hgt
      rw [← hE] at hef
      clear hg hwf hb hE
      go_enter Try.func21, Try.ntmps21
      refine seq_stop ?_
      go_wp2
      refine stop_go (fun W hW => ?_)
      have s1 : w.heap.size < W.heap.size := by rw [hW]; simp only [World.size_alloc]; omega
      have b1 : ∀ i, W.cell? ⟨w.heap.size, i, none⟩ = (#[D, .int .i64 x.off, .int .i64 x.rows, .int .i64 x.cols, .int .i64 x.ld] : Array Value)[i]? := by intro i; rw [hW]; go_simp
      have g0 : Grew w W := by rw [hW]; exact (Grew.refl _).alloc _
      clear hW
      have hDW := hD.grew g0
      go_wp2_with (first | (go_at_call 101; ((with_reducible refine (awake15 _).mono ?_); rintro e w1 ⟨rfl, o1, n1, rfl⟩)) | (go_at_call 101; ((with_reducible refine (awake15 _).mono ?_); rintro e w9 ⟨rfl, o9, n9, rfl⟩)) | (go_at_call 42; ((with_reducible refine (hgt _ ?_).mono ?_); (focus (first | (with_reducible assumption) | (with_reducible refine FS.ext ?_ _ _; with_reducible assumption) | (with_reducible refine IS.ext ?_ _ _; with_reducible assumption) | (refine hDu _ ?_; with_reducible assumption) | (refine hOu _ ?_; with_reducible assumption) | (refine hDa _ ?_; with_reducible assumption) | (refine hDb _ ?_; with_reducible assumption) | (refine hDc _ ?_; with_reducible assumption) | (refine hDd _ ?_; with_reducible assumption) | (refine FW.fs ?_ (by omega) _; with_reducible assumption) | (refine WS.fs ?_; with_reducible assumption) | (refine FW.fs ?_ (by omega) _; assumption) | omega | assumption)); rintro e w1 ⟨rfl, o1, n1, rfl⟩)) | (go_at_call 102; ((with_reducible refine (hef _ ?_).mono ?_); (focus (first | (with_reducible assumption) | (with_reducible refine FS.ext ?_ _ _; with_reducible assumption) | (with_reducible refine IS.ext ?_ _ _; with_reducible assumption) | (refine hDu _ ?_; with_reducible assumption) | (refine hOu _ ?_; with_reducible assumption) | (refine hDa _ ?_; with_reducible assumption) | (refine hDb _ ?_; with_reducible assumption) | (refine hDc _ ?_; with_reducible assumption) | (refine hDd _ ?_; with_reducible assumption) | (refine FW.fs ?_ (by omega) _; with_reducible assumption) | (refine WS.fs ?_; with_reducible assumption) | (refine FW.fs ?_ (by omega) _; assumption) | omega | assumption)); rintro e w1 ⟨rfl, o1, n1, rfl⟩)))
      go_ret
      exact ⟨rfl, by (show Grew _ _; repeat (first | (with_reducible exact Grew.refl _) | (with_reducible assumption) | (with_reducible exact Grew.same_o) | (with_reducible exact Grew.app_o) | (with_reducible refine Grew.ext ?_ _ _) | (with_reducible refine Grew.alloc ?_ _) | ((with_reducible refine Grew.setCell ?_ ?_ _); rotate_left; (focus (dsimp only; first | omega | (simp only [size_ext, World.size_alloc, Array.size_append]; omega)))) | (with_reducible refine Grew.drewN ?_ _) | (with_reducible refine Grew.drew ?_)))⟩
    · have hgo : x.good = true := by cases h : x.good; exact absurd (.inl h) hb; rfl
      have hfi : finL (numL x) = true := by cases h : finL (numL x); exact absurd (.inr h) hb; rfl
      have hn := MatM.good_n hgo
      exact like_main x D x.rows.toNat x.cols.toNat w hD hwf (by omega) (by omega) (by omega) (by omega) hll.1 hgo hfi hg
  · rw [hg] at hgt
    clear hg hwf
    go_enter Try.func21, Try.ntmps21
    refine seq_stop ?_
    go_wp2
    refine stop_go (fun W hW => ?_)
    have s1 : w.heap.size < W.heap.size := by rw [hW]; simp only [World.size_alloc]; omega
    have b1 : ∀ i, W.cell? ⟨w.heap.size, i, none⟩ = (#[D, .int .i64 x.off, .int .i64 x.rows, .int .i64 x.cols, .int .i64 x.ld] : Array Value)[i]? := by intro i; rw [hW]; go_simp
    have g0 : Grew w W := by rw [hW]; exact (Grew.refl _).alloc _
    clear hW
    have hDW := hD.grew g0
    go_wp2_with (first | (go_at_call 101; ((with_reducible refine (awake15 _).mono ?_); rintro e w1 ⟨rfl, o1, n1, rfl⟩)) | (go_at_call 42; ((with_reducible refine (hgt _ ?_).mono ?_); (focus (first | (with_reducible assumption) | (with_reducible refine FS.ext ?_ _ _; with_reducible assumption) | (with_reducible refine IS.ext ?_ _ _; with_reducible assumption) | (refine hDu _ ?_; with_reducible assumption) | (refine hOu _ ?_; with_reducible assumption) | (refine hDa _ ?_; with_reducible assumption) | (refine hDb _ ?_; with_reducible assumption) | (refine hDc _ ?_; with_reducible assumption) | (refine hDd _ ?_; with_reducible assumption) | (refine FW.fs ?_ (by omega) _; with_reducible assumption) | (refine WS.fs ?_; with_reducible assumption) | (refine FW.fs ?_ (by omega) _; assumption) | omega | assumption)); rintro e w1 ⟨rfl, o1, n1, rfl⟩)))
    go_ret
    exact ⟨rfl, by (show Grew _ _; repeat (first | (with_reducible exact Grew.refl _) | (with_reducible assumption) | (with_reducible exact Grew.same_o) | (with_reducible exact Grew.app_o) | (with_reducible refine Grew.ext ?_ _ _) | (with_reducible refine Grew.alloc ?_ _) | ((with_reducible refine Grew.setCell ?_ ?_ _); rotate_left; (focus (dsimp only; first | omega | (simp only [size_ext, World.size_alloc, Array.size_append]; omega)))) | (with_reducible refine Grew.drewN ?_ _) | (with_reducible refine Grew.drew ?_)))⟩
end Go.Proofs.Ytcmggfpcbijcjaa
end
section
/-
  The dump's head as a list of signs, laid by their numbers: the kernel reckons on such a list, not on the text.
-/
set_option linter.unusedSimpArgs false
set_option linter.unusedVariables false
namespace Go.Proofs.Ytcmggfpcbijcjaa
theorem may_cut {P : Program} {c : List Char} {rest : List (List Char)} (h : behindMainWord (wordsSigns P.initOrder.toList) = c :: rest) (hs : stripLifts liftWords (c :: rest) = ([], c :: rest))
    (hc : (c == "cut".toList) = true) (hl : P.laysLater = false) (hr : P.bearsReflect = false) (hd : P.doorFits [] = true) : P.mayEnter = true := by
  have hc' : c = "cut".toList := by simpa using hc
  unfold Program.mayEnter
  rw [h]
  simp only [hs, hl, hr, hd, List.head?_cons, List.contains_nil, Bool.false_or, Bool.not_false, Bool.and_true, Bool.or_true]
  rw [hc']
  simp
theorem final_cut {P : Program} {c : List Char} {rest : List (List Char)} (h : behindMainWord (wordsSigns P.initOrder.toList) = c :: rest) (hs : stripLifts liftWords (c :: rest) = ([], c :: rest))
    (hc : (c == "carried".toList) = false) : P.liftsFinal = false := by
  unfold Program.liftsFinal Program.headLifts
  simp only [h, hs, List.head?_cons, List.contains_nil, ite_self, Bool.or_false]
  have : (some c == some "carried".toList) = false := by simpa using hc
  rw [this]
  rfl
theorem make_cut {P : Program} {c : List Char} {rest : List (List Char)} (h : behindMainWord (wordsSigns P.initOrder.toList) = c :: rest)
    (h1 : (c == "gc".toList || c == "spec".toList) = false) (h2 : (c == "cut".toList) = true) : P.make = some .cut := by
  unfold Program.make
  rw [h]
  simp only [h1, h2, Bool.true_or, Bool.false_eq_true, if_false, if_true]
def headCodes : List Nat := [
  104, 97, 114, 110, 101, 115, 115, 32, 51, 102, 52, 100, 97, 51, 56, 49, 53, 101, 98, 97, 49, 97, 55, 99, 97, 51, 97, 53, 57, 98, 51, 57, 53, 55, 97, 97, 53, 56, 102, 57,
  54, 102, 100, 51, 48, 56, 99, 48, 99, 51, 57, 99, 54, 57, 56, 51, 57, 48, 54, 97, 99, 49, 97, 102, 48, 98, 102, 98, 49, 100, 49, 54, 32, 99, 117, 116, 32, 97, 116, 32,
  115, 116, 114, 97, 105, 103, 104, 116, 101, 100, 103, 101, 47, 115, 116, 114, 97, 105, 103, 104, 116, 101, 100, 103, 101, 108, 97, 119, 48, 54, 46, 65, 120, 101, 115, 67, 108, 111, 115, 101,
  32, 115, 116, 114, 97, 105, 103, 104, 116, 101, 100, 103, 101, 47, 115, 116, 114, 97, 105, 103, 104, 116, 101, 100, 103, 101, 108, 97, 119, 48, 53, 46, 83, 117, 109, 115, 76, 105, 115, 116,
  115, 32, 115, 116, 114, 97, 105, 103, 104, 116, 101, 100, 103, 101, 47, 115, 116, 114, 97, 105, 103, 104, 116, 101, 100, 103, 101, 108, 97, 119, 48, 52, 46, 77, 111, 118, 101, 82, 111, 119,
  115, 32, 115, 116, 114, 97, 105, 103, 104, 116, 101, 100, 103, 101, 47, 115, 116, 114, 97, 105, 103, 104, 116, 101, 100, 103, 101, 108, 97, 119, 48, 56, 46, 71, 101, 114, 84, 101, 108, 108,
  115, 32, 115, 116, 114, 97, 105, 103, 104, 116, 101, 100, 103, 101, 47, 115, 116, 114, 97, 105, 103, 104, 116, 101, 100, 103, 101, 108, 97, 119, 48, 52, 46, 77, 111, 118, 101, 86, 101, 99,
  116, 111, 114, 115, 32, 115, 116, 114, 97, 105, 103, 104, 116, 101, 100, 103, 101, 47, 115, 116, 114, 97, 105, 103, 104, 116, 101, 100, 103, 101, 108, 97, 119, 48, 55, 46, 71, 101, 109, 118,
  67, 108, 111, 115, 101, 32, 115, 116, 114, 97, 105, 103, 104, 116, 101, 100, 103, 101, 47, 115, 116, 114, 97, 105, 103, 104, 116, 101, 100, 103, 101, 108, 97, 119, 49, 49, 46, 71, 101, 109,
  109, 84, 101, 108, 108, 115, 32, 115, 116, 114, 97, 105, 103, 104, 116, 101, 100, 103, 101, 47, 115, 116, 114, 97, 105, 103, 104, 116, 101, 100, 103, 101, 108, 97, 119, 48, 57, 46, 84, 114,
  115, 118, 83, 111, 108, 118, 101, 115, 32, 115, 116, 114, 97, 105, 103, 104, 116, 101, 100, 103, 101, 47, 115, 116, 114, 97, 105, 103, 104, 116, 101, 100, 103, 101, 108, 97, 119, 48, 57, 46,
  84, 114, 115, 118, 66, 97, 99, 107, 119, 97, 114, 100, 32, 115, 116, 114, 97, 105, 103, 104, 116, 101, 100, 103, 101, 47, 115, 116, 114, 97, 105, 103, 104, 116, 101, 100, 103, 101, 108, 97,
  119, 48, 55, 46, 71, 101, 109, 118, 84, 117, 114, 110, 115, 32, 115, 116, 114, 97, 105, 103, 104, 116, 101, 100, 103, 101, 47, 115, 116, 114, 97, 105, 103, 104, 116, 101, 100, 103, 101, 108,
  97, 119, 48, 54, 46, 65, 120, 101, 115, 66, 97, 99, 107, 32, 115, 116, 114, 97, 105, 103, 104, 116, 101, 100, 103, 101, 47, 115, 116, 114, 97, 105, 103, 104, 116, 101, 100, 103, 101, 108,
  97, 119, 49, 49, 46, 71, 101, 109, 109, 87, 104, 111, 108, 101, 32, 115, 116, 114, 97, 105, 103, 104, 116, 101, 100, 103, 101, 47, 115, 116, 114, 97, 105, 103, 104, 116, 101, 100, 103, 101,
  108, 97, 119, 50, 50, 46, 82, 101, 115, 105, 100, 66, 111, 117, 110, 100, 115, 32, 115, 116, 114, 97, 105, 103, 104, 116, 101, 100, 103, 101, 47, 115, 116, 114, 97, 105, 103, 104, 116, 101,
  100, 103, 101, 108, 97, 119, 50, 50, 46, 82, 101, 115, 105, 100, 82, 101, 115, 116, 32, 115, 116, 114, 97, 105, 103, 104, 116, 101, 100, 103, 101, 47, 115, 116, 114, 97, 105, 103, 104, 116,
  101, 100, 103, 101, 108, 97, 119, 48, 54, 46, 65, 120, 101, 115, 83, 99, 97, 108, 101, 32, 115, 116, 114, 97, 105, 103, 104, 116, 101, 100, 103, 101, 47, 115, 116, 114, 97, 105, 103, 104,
  116, 101, 100, 103, 101, 108, 97, 119, 49, 53, 46, 69, 113, 117, 105, 108, 70, 97, 99, 116, 111, 114, 115, 32, 115, 116, 114, 97, 105, 103, 104, 116, 101, 100, 103, 101, 47, 115, 116, 114,
  97, 105, 103, 104, 116, 101, 100, 103, 101, 108, 97, 119, 50, 50, 46, 82, 101, 115, 105, 100, 84, 101, 108, 108, 115, 32, 115, 116, 114, 97, 105, 103, 104, 116, 101, 100, 103, 101, 47, 115,
  116, 114, 97, 105, 103, 104, 116, 101, 100, 103, 101, 108, 97, 119, 50, 50, 46, 82, 101, 115, 105, 100, 66, 97, 99, 107, 119, 97, 114, 100, 32, 115, 116, 114, 97, 105, 103, 104, 116, 101,
  100, 103, 101, 47, 115, 116, 114, 97, 105, 103, 104, 116, 101, 100, 103, 101, 108, 97, 119, 49, 53, 46, 69, 113, 117, 105, 108, 76, 105, 107, 101, 32, 115, 116, 114, 97, 105, 103, 104, 116,
  101, 100, 103, 101, 47, 115, 116, 114, 97, 105, 103, 104, 116, 101, 100, 103, 101, 108, 97, 119, 49, 53, 46, 69, 113, 117, 105, 108, 83, 99, 97, 108, 101, 115, 32, 115, 116, 114, 97, 105,
  103, 104, 116, 101, 100, 103, 101, 47, 115, 116, 114, 97, 105, 103, 104, 116, 101, 100, 103, 101, 108, 97, 119, 50, 48, 46, 76, 97, 99, 110, 66, 101, 108, 111, 119]
def headWords : List (List Nat) := [
  [104, 97, 114, 110, 101, 115, 115],
  [51, 102, 52, 100, 97, 51, 56, 49, 53, 101, 98, 97, 49, 97, 55, 99, 97, 51, 97, 53, 57, 98, 51, 57, 53, 55, 97, 97, 53, 56, 102, 57, 54, 102, 100, 51, 48, 56, 99, 48, 99, 51, 57, 99, 54, 57, 56, 51, 57, 48, 54, 97, 99, 49, 97, 102, 48, 98, 102, 98, 49, 100, 49, 54],
  [99, 117, 116],
  [97, 116],
  [115, 116, 114, 97, 105, 103, 104, 116, 101, 100, 103, 101, 47, 115, 116, 114, 97, 105, 103, 104, 116, 101, 100, 103, 101, 108, 97, 119, 48, 54, 46, 65, 120, 101, 115, 67, 108, 111, 115, 101],
  [115, 116, 114, 97, 105, 103, 104, 116, 101, 100, 103, 101, 47, 115, 116, 114, 97, 105, 103, 104, 116, 101, 100, 103, 101, 108, 97, 119, 48, 53, 46, 83, 117, 109, 115, 76, 105, 115, 116, 115],
  [115, 116, 114, 97, 105, 103, 104, 116, 101, 100, 103, 101, 47, 115, 116, 114, 97, 105, 103, 104, 116, 101, 100, 103, 101, 108, 97, 119, 48, 52, 46, 77, 111, 118, 101, 82, 111, 119, 115],
  [115, 116, 114, 97, 105, 103, 104, 116, 101, 100, 103, 101, 47, 115, 116, 114, 97, 105, 103, 104, 116, 101, 100, 103, 101, 108, 97, 119, 48, 56, 46, 71, 101, 114, 84, 101, 108, 108, 115],
  [115, 116, 114, 97, 105, 103, 104, 116, 101, 100, 103, 101, 47, 115, 116, 114, 97, 105, 103, 104, 116, 101, 100, 103, 101, 108, 97, 119, 48, 52, 46, 77, 111, 118, 101, 86, 101, 99, 116, 111, 114, 115],
  [115, 116, 114, 97, 105, 103, 104, 116, 101, 100, 103, 101, 47, 115, 116, 114, 97, 105, 103, 104, 116, 101, 100, 103, 101, 108, 97, 119, 48, 55, 46, 71, 101, 109, 118, 67, 108, 111, 115, 101],
  [115, 116, 114, 97, 105, 103, 104, 116, 101, 100, 103, 101, 47, 115, 116, 114, 97, 105, 103, 104, 116, 101, 100, 103, 101, 108, 97, 119, 49, 49, 46, 71, 101, 109, 109, 84, 101, 108, 108, 115],
  [115, 116, 114, 97, 105, 103, 104, 116, 101, 100, 103, 101, 47, 115, 116, 114, 97, 105, 103, 104, 116, 101, 100, 103, 101, 108, 97, 119, 48, 57, 46, 84, 114, 115, 118, 83, 111, 108, 118, 101, 115],
  [115, 116, 114, 97, 105, 103, 104, 116, 101, 100, 103, 101, 47, 115, 116, 114, 97, 105, 103, 104, 116, 101, 100, 103, 101, 108, 97, 119, 48, 57, 46, 84, 114, 115, 118, 66, 97, 99, 107, 119, 97, 114, 100],
  [115, 116, 114, 97, 105, 103, 104, 116, 101, 100, 103, 101, 47, 115, 116, 114, 97, 105, 103, 104, 116, 101, 100, 103, 101, 108, 97, 119, 48, 55, 46, 71, 101, 109, 118, 84, 117, 114, 110, 115],
  [115, 116, 114, 97, 105, 103, 104, 116, 101, 100, 103, 101, 47, 115, 116, 114, 97, 105, 103, 104, 116, 101, 100, 103, 101, 108, 97, 119, 48, 54, 46, 65, 120, 101, 115, 66, 97, 99, 107],
  [115, 116, 114, 97, 105, 103, 104, 116, 101, 100, 103, 101, 47, 115, 116, 114, 97, 105, 103, 104, 116, 101, 100, 103, 101, 108, 97, 119, 49, 49, 46, 71, 101, 109, 109, 87, 104, 111, 108, 101],
  [115, 116, 114, 97, 105, 103, 104, 116, 101, 100, 103, 101, 47, 115, 116, 114, 97, 105, 103, 104, 116, 101, 100, 103, 101, 108, 97, 119, 50, 50, 46, 82, 101, 115, 105, 100, 66, 111, 117, 110, 100, 115],
  [115, 116, 114, 97, 105, 103, 104, 116, 101, 100, 103, 101, 47, 115, 116, 114, 97, 105, 103, 104, 116, 101, 100, 103, 101, 108, 97, 119, 50, 50, 46, 82, 101, 115, 105, 100, 82, 101, 115, 116],
  [115, 116, 114, 97, 105, 103, 104, 116, 101, 100, 103, 101, 47, 115, 116, 114, 97, 105, 103, 104, 116, 101, 100, 103, 101, 108, 97, 119, 48, 54, 46, 65, 120, 101, 115, 83, 99, 97, 108, 101],
  [115, 116, 114, 97, 105, 103, 104, 116, 101, 100, 103, 101, 47, 115, 116, 114, 97, 105, 103, 104, 116, 101, 100, 103, 101, 108, 97, 119, 49, 53, 46, 69, 113, 117, 105, 108, 70, 97, 99, 116, 111, 114, 115],
  [115, 116, 114, 97, 105, 103, 104, 116, 101, 100, 103, 101, 47, 115, 116, 114, 97, 105, 103, 104, 116, 101, 100, 103, 101, 108, 97, 119, 50, 50, 46, 82, 101, 115, 105, 100, 84, 101, 108, 108, 115],
  [115, 116, 114, 97, 105, 103, 104, 116, 101, 100, 103, 101, 47, 115, 116, 114, 97, 105, 103, 104, 116, 101, 100, 103, 101, 108, 97, 119, 50, 50, 46, 82, 101, 115, 105, 100, 66, 97, 99, 107, 119, 97, 114, 100],
  [115, 116, 114, 97, 105, 103, 104, 116, 101, 100, 103, 101, 47, 115, 116, 114, 97, 105, 103, 104, 116, 101, 100, 103, 101, 108, 97, 119, 49, 53, 46, 69, 113, 117, 105, 108, 76, 105, 107, 101],
  [115, 116, 114, 97, 105, 103, 104, 116, 101, 100, 103, 101, 47, 115, 116, 114, 97, 105, 103, 104, 116, 101, 100, 103, 101, 108, 97, 119, 49, 53, 46, 69, 113, 117, 105, 108, 83, 99, 97, 108, 101, 115],
  [115, 116, 114, 97, 105, 103, 104, 116, 101, 100, 103, 101, 47, 115, 116, 114, 97, 105, 103, 104, 116, 101, 100, 103, 101, 108, 97, 119, 50, 48, 46, 76, 97, 99, 110, 66, 101, 108, 111, 119]]
def W : List (List Char) := headWords.map (·.map Char.ofNat)
theorem head_eq : Try.prog.initOrder = String.ofList (headCodes.map Char.ofNat) := by kernel_rfl
theorem head_list : Try.prog.initOrder.toList = headCodes.map Char.ofNat := by rw [head_eq, String.toList_ofList]
theorem head_words : wordsSigns (headCodes.map Char.ofNat) = W := by kernel_rfl
def cutWord : List Char := W.getD 2 []
def restWords : List (List Char) := W.drop 3
theorem head_split : behindMainWord W = cutWord :: restWords := by kernel_rfl
theorem head_behind : behindMainWord (wordsSigns Try.prog.initOrder.toList) = cutWord :: restWords := by rw [head_list, head_words]; exact head_split
theorem head_strip : stripLifts liftWords (cutWord :: restWords) = ([], cutWord :: restWords) := by kernel_rfl
theorem head_final : Try.prog.liftsFinal = false := final_cut head_behind head_strip (by kernel_rfl)
theorem head_make : Try.prog.make = some .cut := make_cut head_behind (by kernel_rfl) (by kernel_rfl)
theorem head_may : Try.prog.mayEnter = true := may_cut head_behind head_strip (by kernel_rfl) (by kernel_rfl) (by kernel_rfl) (by kernel_rfl)
end Go.Proofs.Ytcmggfpcbijcjaa
end
