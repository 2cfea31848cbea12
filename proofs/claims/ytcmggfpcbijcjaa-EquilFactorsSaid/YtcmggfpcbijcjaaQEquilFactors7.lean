/-
  Texts laid one behind the other (a claim has at most 60 files): Equil1, GrewA, Equil2, TrsvLaw, TrsvLaw2, Clear, Gemv1, Axes1, Vec3.
-/
import Derived.Test.YtcmggfpcbijcjaaQEquilFactors1
import Derived.Test.YtcmggfpcbijcjaaQEquilFactors2
import Derived.Test.YtcmggfpcbijcjaaQEquilFactors3
import Derived.Test.YtcmggfpcbijcjaaQEquilFactors4
import Derived.Test.YtcmggfpcbijcjaaQEquilFactors5
import Derived.Test.YtcmggfpcbijcjaaQEquilFactors6
section
/-
  Contracts: equil.list, view.Numbers, move.Finite, equil.greatest.
-/
set_option linter.unusedSimpArgs false
set_option linter.unusedVariables false
open Go Go.RowKit Sedge
namespace Go.Proofs.Ytcmggfpcbijcjaa
set_option maxRecDepth 100000 in
set_option maxHeartbeats 1000000 in
/-- equil.list. -/
theorem elist_any (x : VecM) (D : Value) (w : World) (hD : FS w D x.ws) (hx : x.right = true) (hwf : x.wf) (hl : x.ws.length ≤ 1000000) :
   Calls Try.prog 176 #[.agg #[D, .int .i64 x.off, .int .i64 x.n, .int .i64 x.inc]] w
     (fun e w' => ∃ v, e = .returned v ∧ FS w' v x.list ∧ ∃ o n, w' = ext w o n) := by
  have hn := VecM.right_n hx
  have hn2 := hwf.2.1.2
  have hnl := VecM.right_nle hx hl
  have Hx := hid hx
  have Hn := hid hn
  have Hn2 := hid hn2
  have Hnl := hid hnl
  clear hx hn hwf hn2 hnl
  go_enter Try.func176, Try.ntmps176
  refine seq_stop ?_
  go_wp2
  refine stop_go (fun W hW => ?_)
  have s1 : w.heap.size < W.heap.size := by rw [hW]; simp only [World.size_alloc]; omega
  have b1 : ∀ i, W.cell? ⟨w.heap.size, i, none⟩ = (#[D, .int .i64 x.off, .int .i64 x.n, .int .i64 x.inc] : Array Value)[i]? := by intro i; rw [hW]; go_simp
  have g0 : Grew w W := by rw [hW]; exact (Grew.refl _).alloc _
  clear hW
  have hDW : FS W D x.ws := hD.grew g0
  go_wp2
  go_loopw [3, 7] (fun v c wr => ∃ (i : Nat) (o : Array Obj) (n : Nat), (i : Int) ≤ x.n ∧ c = .int .i64 i ∧ wr = ext W o n ∧ OwnF 22 wr W.heap.size v (listTo x i)) (fun _ c _ => x.n.toNat - (intOf c).toNat)
  case atStart => exact ⟨0, #[], _, Hn.out.1, rfl, ext_zero.symm, by simpa [listTo] using OwnF.nil _ _ _⟩
  case round =>
    obtain ⟨i, o2, n2, hi, rfl, hwr, hown⟩ := hrel
    subst hwr
    by_cases hlt : (i : Int) < x.n
    · have hp := VecM.right_place Hx.out hlt
      have hnl := Hnl.out
      have hN := Hn.out
      have h2 : IntKind.i64.wrap (i * x.inc) = i * x.inc := IntWalk.i64_in _ (by omega)
      have h3 : IntKind.i64.wrap (x.off + i * x.inc) = x.off + i * x.inc := IntWalk.i64_in _ (by omega)
      obtain ⟨blk, o, cap', rfl, hblk, hc⟩ := hDW.open (by omega)
      obtain ⟨b, hb, hf⟩ := hc (x.place i) (by unfold VecM.place; omega)
      unfold VecM.place at hb
      have hf' : IsF b (x.num i) := hf
      have hll : (listTo x i).length = i := by simp [listTo]
      clear hc
      go_wp2_with (at_builtin; refine append1_f finfo (((Grew.refl W).ext _ _)) hown hf' (by rw [hll]; omega) _ _ rfl rfl rfl (by simp only [size_ext]) rfl ?_; intro v oo nn ho hn)
      go_roundw
      case rel => exact ⟨i + 1, oo, nn, by omega, by go_num, rfl, by rw [listTo_succ]; exact ho⟩
      case measure => simp [intOf]; omega
    · have e : x.n.toNat = i := by have := Hn.out; omega
      have hown' := hown
      rw [show listTo x i = x.list by unfold listTo VecM.list; rw [e]] at hown'
      have hfs := hown'.fs (by rw [VecM.list_length]; have := Hnl.out; omega)
      go_wp2
      go_ret
      exact ⟨_, rfl, hfs, by (show Grew _ _; repeat (first | (with_reducible exact Grew.refl _) | (with_reducible assumption) | (with_reducible exact Grew.same_o) | (with_reducible exact Grew.app_o) | (with_reducible refine Grew.ext ?_ _ _) | (with_reducible refine Grew.alloc ?_ _) | ((with_reducible refine Grew.setCell ?_ ?_ _); rotate_left; (focus (dsimp only; first | omega | (simp only [size_ext, World.size_alloc, Array.size_append]; omega)))) | (with_reducible refine Grew.drewN ?_ _) | (with_reducible refine Grew.drew ?_)))⟩
/-- All numbers, column by column. -/
def numTo (x : MatM) (R k : Nat) : List Nat := (List.range k).map fun t => x.num (t % R) (t / R)
def numL (x : MatM) : List Nat := numTo x x.rows.toNat (x.rows.toNat * x.cols.toNat)
theorem numTo_succ (x : MatM) (R k : Nat) : numTo x R (k + 1) = numTo x R k ++ [x.num (k % R) (k / R)] := by unfold numTo; rw [List.range_succ, List.map_append]; rfl
theorem numTo_length (x : MatM) (R k : Nat) : (numTo x R k).length = k := by simp [numTo]
theorem numTo_at (x : MatM) {R i j : Nat} (hi : i < R) : numTo x R (j * R + (i + 1)) = numTo x R (j * R + i) ++ [x.num i j] := by
  rw [← Nat.add_assoc, numTo_succ]
  congr 3
  · rw [Nat.add_comm, Nat.add_mul_mod_self_right, Nat.mod_eq_of_lt hi]
  · rw [Nat.add_comm, Nat.add_mul_div_right _ _ (by omega), Nat.div_eq_of_lt hi, Nat.zero_add]
set_option maxRecDepth 100000 in
set_option maxHeartbeats 2000000 in
/-- view.Numbers. -/
theorem numbers_any (x : MatM) (D : Value) (w : World) (hD : FS w D x.ws) (hx : x.good = true) (hwf : x.wf) (hl : x.ws.length ≤ 1000000) (hr : x.rows ≤ 1000) (hc : x.cols ≤ 1000) :
   Calls Try.prog 198 #[.agg #[D, .int .i64 x.off, .int .i64 x.rows, .int .i64 x.cols, .int .i64 x.ld]] w
     (fun e w' => ∃ v, e = .returned v ∧ FS w' v (numL x) ∧ ∃ o n, w' = ext w o n) := by
  have hn := MatM.good_n hx
  have hsp : ∀ w', FS w' D x.ws → Calls Try.prog 194 #[.agg #[D, .int .i64 x.off, .int .i64 x.rows, .int .i64 x.cols, .int .i64 x.ld]] w' (fun e w2 => e = .returned (.tuple #[.int .i64 (spanLo x), .int .i64 (spanHi x), .bool (MatM.full x)]) ∧ ∃ o n, w2 = ext w' o n) := fun w' h => span_any x D w' h hwf hl
  cases hf : MatM.full x
  · rw [hf] at hsp
    have e : numL x = [] := by
      have h0 : x.rows.toNat * x.cols.toNat = 0 := by
        unfold MatM.full at hf; rw [hx] at hf
        simp at hf
        by_cases h : x.rows = 0
        · rw [h]; simp
        · rw [hf h]; simp
      unfold numL numTo; rw [h0]; rfl
    rw [e]
    clear hf e hx
    go_enter Try.func198, Try.ntmps198
    refine seq_stop ?_
    go_wp2
    refine stop_go (fun W hW => ?_)
    have s1 : w.heap.size < W.heap.size := by rw [hW]; simp only [World.size_alloc]; omega
    have b1 : ∀ i, W.cell? ⟨w.heap.size, i, none⟩ = (#[D, .int .i64 x.off, .int .i64 x.rows, .int .i64 x.cols, .int .i64 x.ld] : Array Value)[i]? := by intro i; rw [hW]; go_simp
    have g0 : Grew w W := by rw [hW]; exact (Grew.refl _).alloc _
    clear hW
    have hDW : FS W D x.ws := hD.grew g0
    go_wp2_with (first | (go_at_call 194; ((with_reducible refine (hsp _ ?_).mono ?_); (focus (first | (with_reducible assumption) | (with_reducible refine FS.ext ?_ _ _; with_reducible assumption) | (with_reducible refine IS.ext ?_ _ _; with_reducible assumption) | (refine hDu _ ?_; with_reducible assumption) | (refine hOu _ ?_; with_reducible assumption) | (refine hDa _ ?_; with_reducible assumption) | (refine hDb _ ?_; with_reducible assumption) | (refine hDc _ ?_; with_reducible assumption) | (refine hDd _ ?_; with_reducible assumption) | (refine FW.fs ?_ (by omega) _; with_reducible assumption) | (refine WS.fs ?_; with_reducible assumption) | (refine FW.fs ?_ (by omega) _; assumption) | omega | assumption)); rintro e w1 ⟨rfl, o1, n1, rfl⟩)))
    go_ret
    exact ⟨_, rfl, FS.nil _, by (show Grew _ _; repeat (first | (with_reducible exact Grew.refl _) | (with_reducible assumption) | (with_reducible exact Grew.same_o) | (with_reducible exact Grew.app_o) | (with_reducible refine Grew.ext ?_ _ _) | (with_reducible refine Grew.alloc ?_ _) | ((with_reducible refine Grew.setCell ?_ ?_ _); rotate_left; (focus (dsimp only; first | omega | (simp only [size_ext, World.size_alloc, Array.size_append]; omega)))) | (with_reducible refine Grew.drewN ?_ _) | (with_reducible refine Grew.drew ?_)))⟩
  · rw [hf] at hsp
    have h0 : x.rows ≠ 0 ∧ x.cols ≠ 0 := by
      unfold MatM.full at hf; rw [hx] at hf; simpa using hf
    obtain ⟨R, hR⟩ : ∃ R : Nat, x.rows = R := ⟨x.rows.toNat, by omega⟩
    obtain ⟨C, hC⟩ : ∃ C : Nat, x.cols = C := ⟨x.cols.toNat, by omega⟩
    have hRC : R * C ≤ 1000 * 1000 := Nat.mul_le_mul (by omega) (by omega)
    have eL : numL x = numTo x R (R * C) := by unfold numL; rw [hR, hC]; rfl
    rw [eL]
    have hcol : ∀ (j : Nat) w', j < C → FS w' D x.ws → Calls Try.prog 149 #[.agg #[D, .int .i64 x.off, .int .i64 R, .int .i64 C, .int .i64 x.ld], .int .i64 j] w' (fun e w2 => e = .returned (.agg #[D, .int .i64 (x.off + j * x.ld), .int .i64 R, .int .i64 1]) ∧ ∃ o n, w2 = ext w' o n) := fun j w' hj h => by
      have := col_any x D j w' h hx hwf (by omega)
      have e : (colV x j).off = x.off + j * x.ld := by unfold colV; simp; omega
      rw [e, hR, hC] at this
      exact this
    have hpl : ∀ i j : Nat, i < R → j < C → 0 ≤ x.off + j * x.ld + i ∧ x.off + j * x.ld + i < x.ws.length ∧ (x.off + j * x.ld + i).toNat = x.place i j ∧ 0 ≤ x.off + j * x.ld := fun i j hi hj => by
      have h := MatM.good_place hx (i := i) (j := j) (by omega) (by omega)
      unfold MatM.place
      refine ⟨by omega, by omega, by congr 1; omega, by omega⟩
    rw [hR, hC] at hsp ⊢
    have hpos := MatM.good_place hx (i := 0) (j := 0) (by omega) (by omega)
    obtain ⟨blk, o, cap', rfl, hblk, hcw⟩ := hD.open (by omega)
    have Hcw := hid hcw
    have HPL := hid hpl
    clear hpl hf hx hwf hn eL h0 hcw hpos
    go_enter Try.func198, Try.ntmps198
    refine seq_stop ?_
    go_wp2
    refine stop_go (fun W hW => ?_)
    have s1 : w.heap.size < W.heap.size := by rw [hW]; simp only [World.size_alloc]; omega
    have b1 : ∀ i, W.cell? ⟨w.heap.size, i, none⟩ = (#[.slice (some ⟨blk, o, none⟩) x.ws.length cap', .int .i64 x.off, .int .i64 R, .int .i64 C, .int .i64 x.ld] : Array Value)[i]? := by intro i; rw [hW]; go_simp
    have g0 : Grew w W := by rw [hW]; exact (Grew.refl _).alloc _
    clear hW
    have hDW := hD.grew g0
    go_wp2_with (first | (go_at_call 194; ((with_reducible refine (hsp _ ?_).mono ?_); (focus (first | (with_reducible assumption) | (with_reducible refine FS.ext ?_ _ _; with_reducible assumption) | (with_reducible refine IS.ext ?_ _ _; with_reducible assumption) | (refine hDu _ ?_; with_reducible assumption) | (refine hOu _ ?_; with_reducible assumption) | (refine hDa _ ?_; with_reducible assumption) | (refine hDb _ ?_; with_reducible assumption) | (refine hDc _ ?_; with_reducible assumption) | (refine hDd _ ?_; with_reducible assumption) | (refine FW.fs ?_ (by omega) _; with_reducible assumption) | (refine WS.fs ?_; with_reducible assumption) | (refine FW.fs ?_ (by omega) _; assumption) | omega | assumption)); rintro e w1 ⟨rfl, o1, n1, rfl⟩)))
    refine name_any (fun V hV => ?_)
    have gV : Grew W V := by rw [← hV]; (show Grew _ _; (try simp only [← Array.append_assoc]); repeat (first | (with_reducible exact Grew.same_o) | (with_reducible exact Grew.refl _) | (with_reducible assumption) | (with_reducible refine Grew.alloc ?_ _) | (with_reducible refine Grew.app_r ?_) | ((with_reducible refine Grew.setCell ?_ ?_ _); rotate_left; (focus (dsimp only; first | omega | (simp only [size_ext, World.size_alloc, Array.size_append]; omega)))) | (with_reducible refine Grew.ext ?_ _ _) | (with_reducible refine Grew.drewN ?_ _) | (with_reducible refine Grew.drew ?_)))
    have gwV := Grew.trans g0 gV
    have t1 : ∀ w', Grew V w' → ∀ i, w'.cell? ⟨w.heap.size, i, none⟩ = (#[.slice (some ⟨blk, o, none⟩) x.ws.length cap', .int .i64 x.off, .int .i64 R, .int .i64 C, .int .i64 x.ld] : Array Value)[i]? := fun w' g i => ((Grew.trans gV g).cell s1).trans (b1 i)
    have zV := gV.below.size
    have hDV := hDW.grew gV
    have k1 : w.heap.size < V.heap.size := by omega
    clear hV b1 hsp
    go_loopw [6, 20] (fun v c wr => ∃ (j : Nat), j ≤ C ∧ c = .int .i64 j ∧ Grew V wr ∧ OwnF 22 wr V.heap.size v (numTo x R (j * R))) (fun _ c _ => C - (intOf c).toNat)
    case atStart => exact ⟨0, Nat.zero_le _, rfl, Grew.refl _, by simpa [numTo] using OwnF.nil _ _ _⟩
    case round =>
      obtain ⟨j, hj, rfl, gr, hown⟩ := hrel
      by_cases hlt : j < C
      · have tt := t1 _ gr
        have zr := gr.below.size
        have kr : w.heap.size < wr.heap.size := by omega
        have hDr := hDV.grew gr
        go_wp2_with (first | (go_at_call 149; ((with_reducible refine (hcol j _ hlt ?_).mono ?_); (focus (first | (with_reducible assumption) | (with_reducible refine FS.ext ?_ _ _; with_reducible assumption) | (with_reducible refine IS.ext ?_ _ _; with_reducible assumption) | (refine hDu _ ?_; with_reducible assumption) | (refine hOu _ ?_; with_reducible assumption) | (refine hDa _ ?_; with_reducible assumption) | (refine hDb _ ?_; with_reducible assumption) | (refine hDc _ ?_; with_reducible assumption) | (refine hDd _ ?_; with_reducible assumption) | (refine FW.fs ?_ (by omega) _; with_reducible assumption) | (refine WS.fs ?_; with_reducible assumption) | (refine FW.fs ?_ (by omega) _; assumption) | omega | assumption)); rintro e w1 ⟨rfl, o2, n2, rfl⟩)))
        refine name_any (fun U hU => ?_)
        obtain ⟨T, hT⟩ : ∃ T, T = wr.heap.size + o2.size := ⟨_, rfl⟩
        have gU : Grew wr U := by rw [← hU]; (show Grew _ _; (try simp only [← Array.append_assoc]); repeat (first | (with_reducible exact Grew.same_o) | (with_reducible exact Grew.refl _) | (with_reducible assumption) | (with_reducible refine Grew.alloc ?_ _) | (with_reducible refine Grew.app_r ?_) | ((with_reducible refine Grew.setCell ?_ ?_ _); rotate_left; (focus (dsimp only; first | omega | (simp only [size_ext, World.size_alloc, Array.size_append]; omega)))) | (with_reducible refine Grew.ext ?_ _ _) | (with_reducible refine Grew.drewN ?_ _) | (with_reducible refine Grew.drew ?_)))
        have BT : Box U T #[.slice (some ⟨blk, o, none⟩) x.ws.length cap', .int .i64 (x.off + j * x.ld), .int .i64 R, .int .i64 1] := by rw [← hU]; exact Box.new' (by rw [hT]; simp only [size_ext])
        have nT : ∀ k, u6.ownBlock = some k → k ≠ T := fun k hk => by
          obtain ⟨bs, h1, _⟩ := hown
          have := (World.ownsRow.lt h1 k hk).2
          omega
        have hownU := hown.grew gU
        have gVU := Grew.trans gr gU
        have kT := BT.lt
        have tT := BT.cell
        simp only [← hT]
        clear hU hT hown gU tt hDr
        go_loopw [6, 28] (fun v c wx => ∃ (i : Nat), i ≤ R ∧ c = .int .i64 i ∧ Grew V wx ∧ Box wx T #[.slice (some ⟨blk, o, none⟩) x.ws.length cap', .int .i64 (x.off + j * x.ld), .int .i64 R, .int .i64 1] ∧ OwnF 22 wx V.heap.size v (numTo x R (j * R + i)) ∧ ∀ k, v.ownBlock = some k → k ≠ T) (fun _ c _ => R - (intOf c).toNat)
        case atStart => exact ⟨0, Nat.zero_le _, rfl, gVU, BT, hownU, nT⟩
        case round =>
          clear BT hownU nT gVU kT tT
          obtain ⟨i, hi, rfl, gx, BX, hown, nv⟩ := hrel
          by_cases hli : i < R
          · obtain ⟨hp1, hp2, hp3, hp4⟩ := HPL.out i j hli hlt
            have h3 : IntKind.i64.wrap (x.off + j * x.ld + i) = x.off + j * x.ld + i := IntWalk.i64_in _ (by omega)
            obtain ⟨b, hb, hf⟩ := Hcw.out (x.place i j) (by omega)
            rw [← hp3] at hb
            have hf' : IsF b (x.num i j) := hf
            have hbx := ((Grew.trans gwV gx).cell hblk).trans hb
            have zx := (Grew.trans gwV gx).below.size
            have kb : blk < wr.heap.size := by omega
            have tX := BX.cell
            have kX := BX.lt
            have hll : (numTo x R (j * R + i)).length < 17592186044415 := by
              rw [numTo_length]
              have := Nat.mul_le_mul_right R (show j + 1 ≤ C by omega)
              rw [Nat.add_mul, Nat.mul_comm C R] at this; omega
            clear hb hf hp3
            go_wp2_with (at_builtin; refine append1_fk finfo gx hown hf' hll _ _ rfl rfl rfl ?_ rfl ?_; (focus (first | rfl | simp only [size_ext])); intro v2 w2 gw2 zw2 hv2 hk2 hn2)
            go_roundw
            case rel => exact ⟨i + 1, hli, by go_num, gw2, (by obtain ⟨e, he⟩ := BX; exact ⟨e, (hk2 T kX (fun h => nv T h rfl)).trans he⟩), by rw [numTo_at x hli]; exact hv2, fun k hk => by rcases hn2 k hk with h | h; exact nv k h; omega⟩
            case measure => simp [intOf]; omega
          · have e : i = R := by omega
            subst e
            go_wp2
            go_roundw
            case rel => exact ⟨j + 1, hlt, by go_num, gx, by rw [Nat.add_mul, Nat.one_mul]; exact hown⟩
            case measure => simp [intOf]; omega
      · have e : j = C := by omega
        subst e
        rw [Nat.mul_comm] at hown
        have hfs := hown.fs (by rw [numTo_length]; omega)
        go_wp2
        go_ret
        exact ⟨_, rfl, hfs, Grew.trans gwV gr⟩
set_option maxRecDepth 100000 in
set_option maxHeartbeats 1000000 in
/-- move.Finite. -/
theorem mfin_any (x : MatM) (D : Value) (w : World) (hD : FS w D x.ws) (hwf : x.wf) (hl : x.ws.length ≤ 1000000) (hr : x.rows ≤ 1000) (hc : x.cols ≤ 1000) :
   Calls Try.prog 174 #[.agg #[D, .int .i64 x.off, .int .i64 x.rows, .int .i64 x.cols, .int .i64 x.ld]] w
     (fun e w' => e = .returned (.bool (x.good && finL (numL x))) ∧ ∃ o n, w' = ext w o n) := by
  have hgd : ∀ w', FS w' D x.ws → Calls Try.prog 130 #[.agg #[D, .int .i64 x.off, .int .i64 x.rows, .int .i64 x.cols, .int .i64 x.ld]] w' (fun e w2 => e = .returned (.bool x.good) ∧ ∃ o n, w2 = ext w' o n) := fun w' h => good_any x D w' h hwf
  have hnb : x.good = true → ∀ w', FS w' D x.ws → Calls Try.prog 198 #[.agg #[D, .int .i64 x.off, .int .i64 x.rows, .int .i64 x.cols, .int .i64 x.ld]] w' (fun e w2 => ∃ v, e = .returned v ∧ FS w2 v (numL x) ∧ ∃ o n, w2 = ext w' o n) := fun hg w' h => numbers_any x D w' h hg hwf hl hr hc
  cases hg : x.good
  · rw [hg] at hgd
    clear hnb hwf
    go_enter Try.func174, Try.ntmps174
    refine seq_stop ?_
    go_wp2
    refine stop_go (fun W hW => ?_)
    have s1 : w.heap.size < W.heap.size := by rw [hW]; simp only [World.size_alloc]; omega
    have b1 : ∀ i, W.cell? ⟨w.heap.size, i, none⟩ = (#[D, .int .i64 x.off, .int .i64 x.rows, .int .i64 x.cols, .int .i64 x.ld] : Array Value)[i]? := by intro i; rw [hW]; go_simp
    have g0 : Grew w W := by rw [hW]; exact (Grew.refl _).alloc _
    clear hW
    have hDW : FS W D x.ws := hD.grew g0
    go_wp2_with (first | (go_at_call 130; ((with_reducible refine (hgd _ ?_).mono ?_); (focus (first | (with_reducible assumption) | (with_reducible refine FS.ext ?_ _ _; with_reducible assumption) | (with_reducible refine IS.ext ?_ _ _; with_reducible assumption) | (refine hDu _ ?_; with_reducible assumption) | (refine hOu _ ?_; with_reducible assumption) | (refine hDa _ ?_; with_reducible assumption) | (refine hDb _ ?_; with_reducible assumption) | (refine hDc _ ?_; with_reducible assumption) | (refine hDd _ ?_; with_reducible assumption) | (refine FW.fs ?_ (by omega) _; with_reducible assumption) | (refine WS.fs ?_; with_reducible assumption) | (refine FW.fs ?_ (by omega) _; assumption) | omega | assumption)); rintro e w1 ⟨rfl, o1, n1, rfl⟩)))
    go_ret
    exact ⟨rfl, by (show Grew _ _; repeat (first | (with_reducible exact Grew.refl _) | (with_reducible assumption) | (with_reducible exact Grew.same_o) | (with_reducible exact Grew.app_o) | (with_reducible refine Grew.ext ?_ _ _) | (with_reducible refine Grew.alloc ?_ _) | ((with_reducible refine Grew.setCell ?_ ?_ _); rotate_left; (focus (dsimp only; first | omega | (simp only [size_ext, World.size_alloc, Array.size_append]; omega)))) | (with_reducible refine Grew.drewN ?_ _) | (with_reducible refine Grew.drew ?_)))⟩
  · rw [hg] at hgd
    have hnb' := hnb hg
    obtain ⟨L, hL⟩ : ∃ L, L = numL x := ⟨_, rfl⟩
    rw [← hL] at hnb' ⊢
    clear hnb hwf hg hL
    go_enter Try.func174, Try.ntmps174
    refine seq_stop ?_
    go_wp2
    refine stop_go (fun W hW => ?_)
    have s1 : w.heap.size < W.heap.size := by rw [hW]; simp only [World.size_alloc]; omega
    have b1 : ∀ i, W.cell? ⟨w.heap.size, i, none⟩ = (#[D, .int .i64 x.off, .int .i64 x.rows, .int .i64 x.cols, .int .i64 x.ld] : Array Value)[i]? := by intro i; rw [hW]; go_simp
    have g0 : Grew w W := by rw [hW]; exact (Grew.refl _).alloc _
    clear hW
    have hDW : FS W D x.ws := hD.grew g0
    go_wp2_with (first | (go_at_call 130; ((with_reducible refine (hgd _ ?_).mono ?_); (focus (first | (with_reducible assumption) | (with_reducible refine FS.ext ?_ _ _; with_reducible assumption) | (with_reducible refine IS.ext ?_ _ _; with_reducible assumption) | (refine hDu _ ?_; with_reducible assumption) | (refine hOu _ ?_; with_reducible assumption) | (refine hDa _ ?_; with_reducible assumption) | (refine hDb _ ?_; with_reducible assumption) | (refine hDc _ ?_; with_reducible assumption) | (refine hDd _ ?_; with_reducible assumption) | (refine FW.fs ?_ (by omega) _; with_reducible assumption) | (refine WS.fs ?_; with_reducible assumption) | (refine FW.fs ?_ (by omega) _; assumption) | omega | assumption)); rintro e w1 ⟨rfl, o1, n1, rfl⟩)) | (go_at_call 198; ((with_reducible refine (hnb' _ ?_).mono ?_); (focus (first | (with_reducible assumption) | (with_reducible refine FS.ext ?_ _ _; with_reducible assumption) | (with_reducible refine IS.ext ?_ _ _; with_reducible assumption) | (refine hDu _ ?_; with_reducible assumption) | (refine hOu _ ?_; with_reducible assumption) | (refine hDa _ ?_; with_reducible assumption) | (refine hDb _ ?_; with_reducible assumption) | (refine hDc _ ?_; with_reducible assumption) | (refine hDd _ ?_; with_reducible assumption) | (refine FW.fs ?_ (by omega) _; with_reducible assumption) | (refine WS.fs ?_; with_reducible assumption) | (refine FW.fs ?_ (by omega) _; assumption) | omega | assumption)); rintro e w1 ⟨v, rfl, hv, o2, n2, rfl⟩; (try simp only [drew_ext, drewN_ext, ext_ext] at hv))) | (go_at_call 200; ((with_reducible refine (nfin_any _ _ _ hv).mono ?_); rintro e w1 ⟨rfl, rfl⟩)))
    go_ret
    exact ⟨ret_bool (by simp), by (show Grew _ _; repeat (first | (with_reducible exact Grew.refl _) | (with_reducible assumption) | (with_reducible exact Grew.same_o) | (with_reducible exact Grew.app_o) | (with_reducible refine Grew.ext ?_ _ _) | (with_reducible refine Grew.alloc ?_ _) | ((with_reducible refine Grew.setCell ?_ ?_ _); rotate_left; (focus (dsimp only; first | omega | (simp only [size_ext, World.size_alloc, Array.size_append]; omega)))) | (with_reducible refine Grew.drewN ?_ _) | (with_reducible refine Grew.drew ?_)))⟩
end Go.Proofs.Ytcmggfpcbijcjaa
end
section
/-
  Worlds that grew: arrays of new blocks, however they are bracketed.
-/
set_option linter.unusedSimpArgs false
set_option linter.unusedVariables false
namespace Sedge
open Go Go.RowKit
theorem Grew.app_r {X U : World} {o o' : Array Obj} {n : Nat} (h : Grew X (Sedge.ext U o n)) : Grew X (Sedge.ext U (o ++ o') n) := h.trans ⟨o', n, by simp⟩
end Sedge
end
section
/-
  Contracts: equil.greatest, of equil.Factors' two closures.
-/
set_option linter.unusedSimpArgs false
set_option linter.unusedVariables false
open Go Go.RowKit Sedge
namespace Go.Proofs.Ytcmggfpcbijcjaa
/-- The greatest of what isn't 0, so far. -/
def bestTo (X : Nat → Nat) (e : Nat → Int) : Nat → Option Int
  | 0 => none
  | k + 1 => if feq0 (X k) = true then bestTo X e k else some (match bestTo X e k with
    | none => e k
    | some b => max b (e k))
def bestI (o : Option Int) : Int := match o with
  | none => -1048576
  | some b => b
theorem bestTo_in {X : Nat → Nat} {e : Nat → Int} (h : ∀ k, -100000 ≤ e k ∧ e k ≤ 100000) : ∀ n b, bestTo X e n = some b → -100000 ≤ b ∧ b ≤ 100000
  | 0, b, hb => by cases hb
  | n + 1, b, hb => by
    unfold bestTo at hb
    split at hb
    · exact bestTo_in h n b hb
    · have h1 := h n
      cases hq : bestTo X e n with
      | none => rw [hq] at hb; simp at hb; omega
      | some c =>
        have h2 := bestTo_in h n c hq
        rw [hq] at hb; simp at hb; omega
theorem bestTo_congr {X Y : Nat → Nat} {e f : Nat → Int} : ∀ n, (∀ k, k < n → X k = Y k ∧ e k = f k) → bestTo X e n = bestTo Y f n
  | 0, _ => rfl
  | n + 1, h => by
    unfold bestTo
    rw [bestTo_congr n (fun k hk => h k (by omega)), (h n (by omega)).1, (h n (by omega)).2]
theorem best_zero {X : Nat → Nat} {e : Nat → Int} {n : Nat} (h : feq0 (X n) = true) : bestTo X e (n + 1) = bestTo X e n := by
  show (if feq0 (X n) = true then _ else _) = _; rw [if_pos h]
theorem best_step {X : Nat → Nat} {e : Nat → Int} {n : Nat} (h : feq0 (X n) = false) (he : -100000 ≤ e n) : bestI (bestTo X e (n + 1)) = max (bestI (bestTo X e n)) (e n) := by
  show bestI (if feq0 (X n) = true then _ else _) = _
  rw [if_neg (by rw [h]; decide)]
  cases bestTo X e n with
  | none => show e n = max (-1048576) (e n); omega
  | some b => rfl
theorem best_some {X : Nat → Nat} {e : Nat → Int} (h : ∀ k, -100000 ≤ e k ∧ e k ≤ 100000) (n : Nat) : ((bestI (bestTo X e n)) != -1048576) = (bestTo X e n).isSome := by
  cases hq : bestTo X e n with
  | none => rfl
  | some b =>
    have := bestTo_in h n b hq
    show (b != -1048576) = true
    simp; omega
set_option maxRecDepth 100000 in
/-- equil.Factors' first closure. -/
theorem ecl1_any (i : Int) (b x : Nat) (w : World) (hb : IsF b x) : Calls Try.prog 177 #[.int .i64 i, .float .f64 b] w (fun e w' => e = .returned (.int .i64 (fexp x)) ∧ ∃ o n, w' = ext w o n) := by
  have h := fun w' => nexp_any b x w' hb
  go_enter Try.func177, Try.ntmps177
  go_wp2_with (first | (go_at_call 178; ((with_reducible refine (h _).mono ?_); rintro e w1 ⟨rfl, o1, n1, rfl⟩)))
  go_ret
  exact ⟨rfl, by (show Grew _ _; repeat (first | (with_reducible exact Grew.refl _) | (with_reducible assumption) | (with_reducible exact Grew.same_o) | (with_reducible exact Grew.app_o) | (with_reducible refine Grew.ext ?_ _ _) | (with_reducible refine Grew.alloc ?_ _) | ((with_reducible refine Grew.setCell ?_ ?_ _); rotate_left; (focus (dsimp only; first | omega | (simp only [size_ext, World.size_alloc, Array.size_append]; omega)))) | (with_reducible refine Grew.drewN ?_ _) | (with_reducible refine Grew.drew ?_)))⟩
set_option maxRecDepth 100000 in
set_option maxHeartbeats 1000000 in
/-- equil.greatest, of the first closure. -/
theorem great1_any (D : Value) (ws : List Nat) (w : World) (hD : FS w D ws) (hl : ws.length ≤ 1000000) :
   Calls Try.prog 175 #[D, .func (.func 177) #[] #[]] w (fun e w' => e = .returned (.tuple #[.int .i64 (bestI (bestTo (fun k => ws.getD k 0) (fun k => fexp (ws.getD k 0)) ws.length)), .bool (bestTo (fun k => ws.getD k 0) (fun k => fexp (ws.getD k 0)) ws.length).isSome]) ∧ ∃ o n, w' = ext w o n) := by
  obtain ⟨X, hX⟩ : ∃ X : Nat → Nat, X = fun k => ws.getD k 0 := ⟨_, rfl⟩
  obtain ⟨e, he⟩ : ∃ e : Nat → Int, e = fun k => fexp (ws.getD k 0) := ⟨_, rfl⟩
  have heb : ∀ k, -100000 ≤ e k ∧ e k ≤ 100000 := fun k => by rw [he]; have := fexp_range' (ws.getD k 0); simp only; omega
  rw [← hX, ← he]
  have hsm := best_some heb (X := X)
  have hcl : ∀ (i : Nat) (b : Nat) w', IsF b (ws.getD i 0) → Calls Try.prog 177 #[.int .i64 i, .float .f64 b] w' (fun e2 w2 => e2 = .returned (.int .i64 (e i)) ∧ ∃ o n, w2 = ext w' o n) := fun i b w' hb => by rw [he]; exact ecl1_any i b _ w' hb
  obtain ⟨a, cap, rfl⟩ := hD.shape
  have HX := hid hX
  have HE := hid heb
  have HS := hid hsm
  clear hX he heb hsm
  go_enter Try.func175, Try.ntmps175
  go_wp2
  go_loopw [7, 12] (fun m c wr => ∃ (k : Nat), k ≤ ws.length ∧ c = .int .i64 k ∧ m = .int .i64 (bestI (bestTo X e k)) ∧ Grew w wr) (fun _ c _ => ws.length - (intOf c).toNat)
  case atStart => exact ⟨0, Nat.zero_le _, rfl, rfl, Grew.refl _⟩
  case round =>
    obtain ⟨k, hk, rfl, rfl, g⟩ := hrel
    have hDr := hD.grew g
    by_cases hlt : k < ws.length
    · obtain ⟨blk, o, ea, hblk, hc⟩ := hDr.at.2 (by omega)
      subst ea
      obtain ⟨b, hb, hf⟩ := hc k hlt
      have hck := fun w' => hcl k b w' hf
      have hXk : X k = ws.getD k 0 := by rw [HX.out]
      clear hc hcl
      have hz : (FloatKind.f64.format.order b 0 != some Ordering.eq) = !(feq0 (X k)) := by
        rw [hXk]; unfold feq0; rw [← hf.order isF_zero]; rfl
      cases hq : feq0 (X k)
      · rw [hq] at hz
        have hst := best_step (e := e) hq (HE.out k).1
        obtain ⟨B, hB⟩ : ∃ B, B = bestI (bestTo X e k) := ⟨_, rfl⟩
        obtain ⟨E, hE⟩ : ∃ E, E = e k := ⟨_, rfl⟩
        rw [← hB, ← hE] at hst
        rw [← hE] at hck
        rw [← hB]
        have HST := hid hst
        clear hst hB hE hq hXk
        go_wp2_with (first | (go_at_call 177; ((with_reducible refine (hck _).mono ?_); rintro e w1 ⟨rfl, o1, n1, rfl⟩)))
        go_roundw
        case rel => exact ⟨k + 1, hlt, by go_num, by rw [HST.out]; congr 1; split <;> omega, Grew.trans g ⟨_, _, rfl⟩⟩
        case measure => simp [intOf]; omega
      · rw [hq] at hz
        have hst := best_zero (e := e) hq
        have HST := hid hst
        clear hst hq hXk
        go_wp2
        go_roundw
        case rel => exact ⟨k + 1, hlt, by go_num, by rw [HST.out], g⟩
        case measure => simp [intOf]; omega
    · have e1 : k = ws.length := by omega
      subst e1
      have h1 := HS.out ws.length
      go_wp2
      go_ret2
      exact ⟨rfl, g⟩
set_option maxRecDepth 100000 in
set_option maxHeartbeats 1000000 in
/-- equil.Factors' second closure. -/
theorem ecl2_any (i b x p : Nat) (R : Value) (rs : List Int) (w : World) (hb : IsF b x) (hR : IS .i64 w R rs) (hp : ∀ i, w.cell? ⟨p, i, none⟩ = (#[R] : Array Value)[i]?) (kp : p < w.heap.size) (hi : i < rs.length) (hrb : ∀ k, -50000 ≤ rs.getD k 0 ∧ rs.getD k 0 ≤ 50000) :
   Calls Try.prog 179 #[.int .i64 i, .float .f64 b, .pointer (some ⟨p, 0, none⟩)] w (fun e w' => e = .returned (.int .i64 (fexp x + rs.getD i 0)) ∧ ∃ o n, w' = ext w o n) := by
  have h := fun w' => nexp_any b x w' hb
  have hr := fexp_range' x
  have hrk := hrb i
  obtain ⟨aR, cR, rfl⟩ := hR.shape
  obtain ⟨blk, o, ea, hblk, hc⟩ := hR.at.2 (by omega)
  subst ea
  have hz := hc i hi
  obtain ⟨z, hzz⟩ : ∃ z, z = rs.getD i 0 := ⟨_, rfl⟩
  rw [← hzz] at hz hrk ⊢
  obtain ⟨E, hE⟩ : ∃ E, E = fexp x := ⟨_, rfl⟩
  rw [← hE] at hr ⊢
  simp only [← hE] at h
  have r1 : IntKind.i64.wrap (E + z) = E + z := IntWalk.i64_in _ (by omega)
  clear hc hR hrb hzz hE
  go_enter Try.func179, Try.ntmps179
  go_wp2
  refine wp_region_R (Grew w) [] [(0,0), (0,2), (0,3), (0,4), (0,5), (1,1), (0,6), (0,7)] (by kernel_rfl) (by kernel_rfl) (fun _ _ _ _ h _ => h) (by first | exact ⟨_, _, ext_drew⟩ | exact ⟨_, _, drew_ext0⟩ | (show Grew _ _; repeat (first | (with_reducible exact Grew.refl _) | (with_reducible assumption) | (with_reducible exact Grew.same_o) | (with_reducible exact Grew.app_o) | (with_reducible refine Grew.ext ?_ _ _) | (with_reducible refine Grew.alloc ?_ _) | ((with_reducible refine Grew.setCell ?_ ?_ _); rotate_left; (focus (dsimp only; first | omega | (simp only [size_ext, World.size_alloc, Array.size_append]; omega)))) | (with_reducible refine Grew.drewN ?_ _) | (with_reducible refine Grew.drew ?_)))) ?_
  go_wp2_with (first | ((with_reducible refine wpR_id ?_); first | (refine wpR_take (v := ?_) rfl rfl ?_ ?_; rotate_left; (focus (rintro w' ⟨o', n', rfl⟩; go_simp; try with_reducible rfl)); simp only [Act.put, List.setIfInBounds_toArray, List.set_cons_zero, List.set_cons_succ]) | (refine wpR_pure (v := ?_) rfl rfl ?_ ?_; rotate_left; (focus (intro w'; go_simp; try with_reducible rfl)); simp only [Act.put, List.setIfInBounds_toArray, List.set_cons_zero, List.set_cons_succ]) | (refine wpR_takeG (v := ?_) rfl rfl rfl rfl rfl ?_ ?_; rotate_left; (focus (rintro w' ⟨o', n', rfl⟩; go_simp; try with_reducible rfl)); simp only [Act.put, List.setIfInBounds_toArray, List.set_cons_zero, List.set_cons_succ]) | (refine wpR_skip rfl rfl rfl rfl rfl rfl ?_; simp only [Act.put, List.setIfInBounds_toArray, List.set_cons_zero, List.set_cons_succ]) | (refine wpR_skipU rfl rfl rfl rfl rfl ?_; simp only [Act.put, List.setIfInBounds_toArray, List.set_cons_zero, List.set_cons_succ]) | (refine wpR_do rfl rfl (fun K hK => ?_)) | (refine wpR_doG rfl rfl rfl rfl rfl (fun K hK => ?_)) | (refine wpR_last rfl rfl (fun K hK => ?_)) | (refine wpR_nil ?_)) | ((with_reducible refine wpR_go ?_ ?_); (focus (show Grew _ _; repeat (first | (with_reducible exact Grew.refl _) | (with_reducible assumption) | (with_reducible exact Grew.same_o) | (with_reducible exact Grew.app_o) | (with_reducible refine Grew.ext ?_ _ _) | (with_reducible refine Grew.alloc ?_ _) | ((with_reducible refine Grew.setCell ?_ ?_ _); rotate_left; (focus (dsimp only; first | omega | (simp only [size_ext, World.size_alloc, Array.size_append]; omega)))) | (with_reducible refine Grew.drewN ?_ _) | (with_reducible refine Grew.drew ?_))))) | ((with_reducible refine upon_id ?_); refine upon_fop rfl (by assumption) (by assumption) ?_; intro rr nn hr) | (go_at_call 178; ((with_reducible refine (h _).mono ?_); rintro e w1 ⟨rfl, o1, n1, rfl⟩)))
  go_ret
  exact ⟨rfl, by (show Grew _ _; repeat (first | (with_reducible exact Grew.refl _) | (with_reducible assumption) | (with_reducible exact Grew.same_o) | (with_reducible exact Grew.app_o) | (with_reducible refine Grew.ext ?_ _ _) | (with_reducible refine Grew.alloc ?_ _) | ((with_reducible refine Grew.setCell ?_ ?_ _); rotate_left; (focus (dsimp only; first | omega | (simp only [size_ext, World.size_alloc, Array.size_append]; omega)))) | (with_reducible refine Grew.drewN ?_ _) | (with_reducible refine Grew.drew ?_)))⟩
set_option maxRecDepth 100000 in
set_option maxHeartbeats 1000000 in
/-- equil.greatest, of the second closure. -/
theorem great2_any (D : Value) (ws : List Nat) (p : Nat) (R : Value) (rs : List Int) (w : World) (hD : FS w D ws) (hl : ws.length ≤ 1000000) (hR : IS .i64 w R rs) (hp : ∀ i, w.cell? ⟨p, i, none⟩ = (#[R] : Array Value)[i]?) (kp : p < w.heap.size) (hlr : ws.length ≤ rs.length) (hrb : ∀ k, -50000 ≤ rs.getD k 0 ∧ rs.getD k 0 ≤ 50000) :
   Calls Try.prog 175 #[D, .func (.func 179) #[] #[.pointer (some ⟨p, 0, none⟩)]] w (fun e w' => e = .returned (.tuple #[.int .i64 (bestI (bestTo (fun k => ws.getD k 0) (fun k => fexp (ws.getD k 0) + rs.getD k 0) ws.length)), .bool (bestTo (fun k => ws.getD k 0) (fun k => fexp (ws.getD k 0) + rs.getD k 0) ws.length).isSome]) ∧ ∃ o n, w' = ext w o n) := by
  obtain ⟨X, hX⟩ : ∃ X : Nat → Nat, X = fun k => ws.getD k 0 := ⟨_, rfl⟩
  obtain ⟨e, he⟩ : ∃ e : Nat → Int, e = fun k => fexp (ws.getD k 0) + rs.getD k 0 := ⟨_, rfl⟩
  have heb : ∀ k, -100000 ≤ e k ∧ e k ≤ 100000 := fun k => by rw [he]; have := fexp_range' (ws.getD k 0); have := hrb k; simp only; omega
  rw [← hX, ← he]
  have hsm := best_some heb (X := X)
  have hcl : ∀ (i : Nat) (b : Nat) w', i < ws.length → IsF b (ws.getD i 0) → Grew w w' → Calls Try.prog 179 #[.int .i64 i, .float .f64 b, .pointer (some ⟨p, 0, none⟩)] w' (fun e2 w2 => e2 = .returned (.int .i64 (e i)) ∧ ∃ o n, w2 = ext w' o n) := fun i b w' hi hb g => by rw [he]; exact ecl2_any i b _ p R rs w' hb (hR.grew g) (fun i => (g.cell kp).trans (hp i)) (Nat.lt_of_lt_of_le kp g.below.size) (by omega) hrb
  obtain ⟨a, cap, rfl⟩ := hD.shape
  have HX := hid hX
  have HE := hid heb
  have HS := hid hsm
  clear hX he heb hsm hR hp hrb hlr
  go_enter Try.func175, Try.ntmps175
  go_wp2
  go_loopw [7, 12] (fun m c wr => ∃ (k : Nat), k ≤ ws.length ∧ c = .int .i64 k ∧ m = .int .i64 (bestI (bestTo X e k)) ∧ Grew w wr) (fun _ c _ => ws.length - (intOf c).toNat)
  case atStart => exact ⟨0, Nat.zero_le _, rfl, rfl, Grew.refl _⟩
  case round =>
    obtain ⟨k, hk, rfl, rfl, g⟩ := hrel
    have hDr := hD.grew g
    by_cases hlt : k < ws.length
    · obtain ⟨blk, o, ea, hblk, hc⟩ := hDr.at.2 (by omega)
      subst ea
      obtain ⟨b, hb, hf⟩ := hc k hlt
      have hck := fun w' g => hcl k b w' hlt hf g
      have hXk : X k = ws.getD k 0 := by rw [HX.out]
      clear hc hcl
      have hz : (FloatKind.f64.format.order b 0 != some Ordering.eq) = !(feq0 (X k)) := by
        rw [hXk]; unfold feq0; rw [← hf.order isF_zero]; rfl
      cases hq : feq0 (X k)
      · rw [hq] at hz
        have hst := best_step (e := e) hq (HE.out k).1
        obtain ⟨B, hB⟩ : ∃ B, B = bestI (bestTo X e k) := ⟨_, rfl⟩
        obtain ⟨E, hE⟩ : ∃ E, E = e k := ⟨_, rfl⟩
        rw [← hB, ← hE] at hst
        rw [← hE] at hck
        rw [← hB]
        have HST := hid hst
        clear hst hB hE hq hXk
        go_wp2_with (first | (go_at_call 179; ((with_reducible refine (hck _ (Grew.trans g (by (show Grew _ _; (try simp only [← Array.append_assoc]); repeat (first | (with_reducible exact Grew.same_o) | (with_reducible exact Grew.refl _) | (with_reducible assumption) | (with_reducible refine Grew.alloc ?_ _) | (with_reducible refine Grew.app_r ?_) | ((with_reducible refine Grew.setCell ?_ ?_ _); rotate_left; (focus (dsimp only; first | omega | (simp only [size_ext, World.size_alloc, Array.size_append]; omega)))) | (with_reducible refine Grew.ext ?_ _ _) | (with_reducible refine Grew.drewN ?_ _) | (with_reducible refine Grew.drew ?_)))))).mono ?_); rintro e w1 ⟨rfl, o1, n1, rfl⟩)))
        go_roundw
        case rel => exact ⟨k + 1, hlt, by go_num, by rw [HST.out]; congr 1; split <;> omega, Grew.trans g ⟨_, _, rfl⟩⟩
        case measure => simp [intOf]; omega
      · rw [hq] at hz
        have hst := best_zero (e := e) hq
        have HST := hid hst
        clear hst hq hXk
        go_wp2
        go_roundw
        case rel => exact ⟨k + 1, hlt, by go_num, by rw [HST.out], g⟩
        case measure => simp [intOf]; omega
    · have e1 : k = ws.length := by omega
      subst e1
      have h1 := HS.out ws.length
      go_wp2
      go_ret2
      exact ⟨rfl, g⟩
end Go.Proofs.Ytcmggfpcbijcjaa
end
section
/-
  Plain: the steps of a triangular system, column by column and row by row, come to the same.
-/
set_option linter.unusedSimpArgs false
set_option linter.unusedVariables false
namespace Sedge
def lessF (s : Nat → Nat) (i k a : Nat) : Nat → Nat := fun r => if r = i then fsub (s i) (fmul a (s k)) else s r
def divF (s : Nat → Nat) (i a : Nat) : Nat → Nat := fun r => if r = i then fdiv (s i) a else s r
theorem lessF_eq {s : Nat → Nat} {i k a : Nat} : lessF s i k a i = fsub (s i) (fmul a (s k)) := by simp [lessF]
theorem lessF_ne {s : Nat → Nat} {i k a r : Nat} (h : r ≠ i) : lessF s i k a r = s r := by simp [lessF, h]
theorem divF_eq {s : Nat → Nat} {i a : Nat} : divF s i a i = fdiv (s i) a := by simp [divF]
theorem divF_ne {s : Nat → Nat} {i a r : Nat} (h : r ≠ i) : divF s i a r = s r := by simp [divF, h]
section
variable (M : Nat → Nat → Nat)
/-- Row i: less its first t products, the columns in their order. -/
def rowIn (s : Nat → Nat) (i : Nat) : Nat → (Nat → Nat)
  | 0 => s
  | t + 1 => lessF (rowIn s i t) i t (M i t)
def rowAll (s : Nat → Nat) : Nat → (Nat → Nat)
  | 0 => s
  | i + 1 => rowIn M (rowAll s i) i i
/-- Column j: out of the t rows below it. -/
def colIn (s : Nat → Nat) (j : Nat) : Nat → (Nat → Nat)
  | 0 => s
  | t + 1 => lessF (colIn s j t) (j + 1 + t) j (M (j + 1 + t) j)
def colAll (n : Nat) (s : Nat → Nat) : Nat → (Nat → Nat)
  | 0 => s
  | j + 1 => colIn M (colAll n s j) j (n - 1 - j)
variable {M} {s : Nat → Nat}
theorem rowIn_ne {i r : Nat} (h : r ≠ i) : ∀ t, rowIn M s i t r = s r
  | 0 => rfl
  | t + 1 => by unfold rowIn; rw [lessF_ne h, rowIn_ne h t]
theorem rowAll_ge {r : Nat} : ∀ k, k ≤ r → rowAll M s k r = s r
  | 0, _ => rfl
  | k + 1, h => by unfold rowAll; rw [rowIn_ne (by omega), rowAll_ge k (by omega)]
theorem rowAll_gt {r : Nat} : ∀ k, r < k → rowAll M s k r = rowAll M s (r + 1) r
  | 0, h => absurd h (by omega)
  | k + 1, h => by
    by_cases e : r = k
    · subst e; rfl
    · show rowIn M (rowAll M s k) k k r = _
      rw [rowIn_ne e, rowAll_gt k (by omega)]
/-- Row r less t products. -/
def gRow (M : Nat → Nat → Nat) (s : Nat → Nat) (r t : Nat) : Nat := rowIn M (rowAll M s r) r t r
theorem gRow_zero {r : Nat} : gRow M s r 0 = s r := rowAll_ge r (Nat.le_refl r)
theorem gRow_succ {r t : Nat} (h : t < r) : gRow M s r (t + 1) = fsub (gRow M s r t) (fmul (M r t) (gRow M s t t)) := by
  show lessF (rowIn M (rowAll M s r) r t) r t (M r t) r = _
  rw [lessF_eq, rowIn_ne (by omega : t ≠ r), rowAll_gt r h]
  rfl
theorem rowAll_g {n r : Nat} (h : r < n) : rowAll M s n r = gRow M s r r := by rw [rowAll_gt n h]; rfl
theorem colIn_eq {v : Nat → Nat} {n j : Nat} (hs : ∀ r, r < n → s r = gRow M v r (min r j)) (hj : j < n) : ∀ t, j + t < n → ∀ r, r < n → colIn M s j t r = if j < r ∧ r ≤ j + t then gRow M v r (j + 1) else s r
  | 0, _, r, _ => by rw [if_neg (by omega)]; rfl
  | t + 1, ht, r, hr => by
    show lessF (colIn M s j t) (j + 1 + t) j (M (j + 1 + t) j) r = _
    have ih := colIn_eq hs hj t (by omega)
    by_cases e : r = j + 1 + t
    · subst e
      rw [lessF_eq, ih _ (by omega), if_neg (by omega), ih j hj, if_neg (by omega), if_pos (by omega), hs _ (by omega), hs j hj, Nat.min_self, Nat.min_eq_right (by omega), gRow_succ (by omega)]
    · rw [lessF_ne e, ih r hr]
      by_cases h1 : j < r ∧ r ≤ j + t
      · rw [if_pos h1, if_pos (by omega)]
      · rw [if_neg h1, if_neg (by omega)]
theorem colAll_eq {n : Nat} : ∀ j, j ≤ n → ∀ r, r < n → colAll M n s j r = gRow M s r (min r j)
  | 0, _, r, _ => by rw [Nat.min_zero, gRow_zero]; rfl
  | j + 1, hj, r, hr => by
    have ih := colAll_eq (n := n) j (by omega)
    show colIn M (colAll M n s j) j (n - 1 - j) r = _
    rw [colIn_eq ih (by omega) _ (by omega) r hr]
    by_cases h1 : j < r
    · rw [if_pos (by omega), Nat.min_eq_right (by omega)]
    · rw [if_neg (by omega), ih r hr, Nat.min_eq_left (by omega), Nat.min_eq_left (by omega)]
/-- Kind 1: column by column is row by row. -/
theorem col_row {n r : Nat} (h : r < n) : colAll M n s n r = rowAll M s n r := by
  rw [colAll_eq n (Nat.le_refl n) r h, Nat.min_eq_left (by omega), rowAll_g h]
end
section
variable (M : Nat → Nat → Nat) (n : Nat)
def rowIn2 (s : Nat → Nat) (i : Nat) : Nat → (Nat → Nat)
  | 0 => s
  | t + 1 => lessF (rowIn2 s i t) i (n - 1 - t) (M i (n - 1 - t))
def rowAll2 (s : Nat → Nat) : Nat → (Nat → Nat)
  | 0 => s
  | k + 1 => divF (rowIn2 M n (rowAll2 s k) (n - 1 - k) k) (n - 1 - k) (M (n - 1 - k) (n - 1 - k))
def colIn2 (s : Nat → Nat) (j : Nat) : Nat → (Nat → Nat)
  | 0 => s
  | t + 1 => lessF (colIn2 s j t) t j (M t j)
def colAll2 (s : Nat → Nat) : Nat → (Nat → Nat)
  | 0 => s
  | k + 1 => colIn2 M (divF (colAll2 s k) (n - 1 - k) (M (n - 1 - k) (n - 1 - k))) (n - 1 - k) (n - 1 - k)
variable {M n} {s : Nat → Nat}
theorem rowIn2_ne {i r : Nat} (h : r ≠ i) : ∀ t, rowIn2 M n s i t r = s r
  | 0 => rfl
  | t + 1 => by unfold rowIn2; rw [lessF_ne h, rowIn2_ne h t]
theorem rowAll2_ge {r : Nat} (hr : r < n) : ∀ k, k ≤ n - 1 - r → rowAll2 M n s k r = s r
  | 0, _ => rfl
  | k + 1, h => by unfold rowAll2; rw [divF_ne (by omega), rowIn2_ne (by omega), rowAll2_ge hr k (by omega)]
theorem rowAll2_gt {r : Nat} (hr : r < n) : ∀ k, n - 1 - r < k → k ≤ n → rowAll2 M n s k r = rowAll2 M n s (n - 1 - r + 1) r
  | 0, h, _ => absurd h (by omega)
  | k + 1, h, hk => by
    by_cases e : k = n - 1 - r
    · subst e; rfl
    · show divF (rowIn2 M n (rowAll2 M n s k) (n - 1 - k) k) (n - 1 - k) _ r = _
      rw [divF_ne (by omega), rowIn2_ne (by omega), rowAll2_gt hr k (by omega) (by omega)]
def gRow2 (M : Nat → Nat → Nat) (n : Nat) (s : Nat → Nat) (r t : Nat) : Nat := rowIn2 M n (rowAll2 M n s (n - 1 - r)) r t r
def fRow2 (M : Nat → Nat → Nat) (n : Nat) (s : Nat → Nat) (r : Nat) : Nat := fdiv (gRow2 M n s r (n - 1 - r)) (M r r)
theorem gRow2_zero {r : Nat} (hr : r < n) : gRow2 M n s r 0 = s r := rowAll2_ge hr _ (Nat.le_refl _)
theorem rowAll2_f {r k : Nat} (hr : r < n) (h : n - 1 - r < k) (hk : k ≤ n) : rowAll2 M n s k r = fRow2 M n s r := by
  rw [rowAll2_gt hr k h hk]
  show divF (rowIn2 M n (rowAll2 M n s (n - 1 - r)) (n - 1 - (n - 1 - r)) (n - 1 - r)) (n - 1 - (n - 1 - r)) (M (n - 1 - (n - 1 - r)) (n - 1 - (n - 1 - r))) r = _
  rw [show n - 1 - (n - 1 - r) = r by omega, divF_eq]; rfl
theorem gRow2_succ {r t : Nat} (hr : r < n) (h : t < n - 1 - r) : gRow2 M n s r (t + 1) = fsub (gRow2 M n s r t) (fmul (M r (n - 1 - t)) (fRow2 M n s (n - 1 - t))) := by
  show lessF (rowIn2 M n (rowAll2 M n s (n - 1 - r)) r t) r (n - 1 - t) (M r (n - 1 - t)) r = _
  rw [lessF_eq, rowIn2_ne (by omega : n - 1 - t ≠ r), rowAll2_f (by omega) (by omega) (by omega)]
  rfl
theorem colIn2_eq {k j : Nat} {u : Nat → Nat} (hj : j = n - 1 - k) (hk : k < n) (hu : ∀ r, r < j → u r = gRow2 M n s r k) (huj : u j = fRow2 M n s j) : ∀ t, t ≤ j → ∀ r, r < n → colIn2 M u j t r = if r < t then gRow2 M n s r (k + 1) else u r
  | 0, _, r, _ => by rw [if_neg (by omega)]; rfl
  | t + 1, ht, r, hr => by
    show lessF (colIn2 M u j t) t j (M t j) r = _
    have ih := colIn2_eq hj hk hu huj t (by omega)
    by_cases e : r = t
    · subst e
      rw [lessF_eq, ih r hr, if_neg (by omega), ih j (by omega), if_neg (by omega), if_pos (by omega), hu r (by omega), huj, gRow2_succ hr (by omega), hj]
    · rw [lessF_ne e, ih r hr]
      by_cases h1 : r < t
      · rw [if_pos h1, if_pos (by omega)]
      · rw [if_neg h1, if_neg (by omega)]
theorem colAll2_eq : ∀ k, k ≤ n → ∀ r, r < n → colAll2 M n s k r = if n - 1 - r < k then fRow2 M n s r else gRow2 M n s r k
  | 0, _, r, hr => by rw [if_neg (by omega), gRow2_zero hr]; rfl
  | k + 1, hk, r, hr => by
    have ih := colAll2_eq k (by omega)
    show colIn2 M (divF (colAll2 M n s k) (n - 1 - k) (M (n - 1 - k) (n - 1 - k))) (n - 1 - k) (n - 1 - k) r = _
    have e1 : n - 1 - (n - 1 - k) = k := by omega
    rw [colIn2_eq (k := k) (s := s) rfl (by omega) (fun q hq => by rw [divF_ne (by omega), ih q (by omega), if_neg (by omega)]) (by rw [divF_eq, ih _ (by omega), if_neg (by omega)]; unfold fRow2; rw [e1]) _ (Nat.le_refl _) r hr]
    by_cases h1 : r < n - 1 - k
    · rw [if_pos h1, if_neg (by omega)]
    · rw [if_neg h1, if_pos (by omega)]
      by_cases h2 : r = n - 1 - k
      · subst h2
        rw [divF_eq, ih _ (by omega), if_neg (by omega)]; unfold fRow2; rw [e1]
      · rw [divF_ne h2, ih r hr, if_pos (by omega)]
/-- Kind 2: column by column is row by row. -/
theorem col_row2 {r : Nat} (h : r < n) : colAll2 M n s n r = rowAll2 M n s n r := by
  rw [colAll2_eq n (Nat.le_refl n) r h, if_pos (by omega), rowAll2_f h (by omega) (Nat.le_refl n)]
end
end Sedge
end
section
/-
  Plain: a vector's numbers as a function; the four kinds of a triangular system.
-/
set_option linter.unusedSimpArgs false
set_option linter.unusedVariables false
open Go.Proofs.Ytcmggfpcbijcjaa
namespace Sedge
/-- The list L is x's, but its numbers are s. -/
structure VH (x : VecM) (L : List Nat) (s : Nat → Nat) : Prop where
  len : L.length = x.ws.length
  get : ∀ r : Nat, (r : Int) < x.n → L.getD (x.place r) 0 = s r
  rest : ∀ q, (∀ r : Nat, (r : Int) < x.n → x.place r ≠ q) → L.getD q 0 = x.ws.getD q 0
theorem VH.start (x : VecM) : VH x x.ws x.num := ⟨rfl, fun _ _ => rfl, fun _ _ => rfl⟩
theorem VH.set {x : VecM} {L : List Nat} {s : Nat → Nat} (h : VH x L s) (hx : x.right = true) {i v : Nat} (hi : (i : Int) < x.n) : VH x (L.set (x.place i) v) (fun r => if r = i then v else s r) := by
  refine ⟨by simp [h.len], fun r hr => ?_, fun q hq => ?_⟩
  · by_cases e : r = i
    · subst e; rw [getD_set_eq (by rw [h.len]; exact VecM.place_lt hx hi)]; simp
    · rw [getD_set_ne' (fun e' => e (VecM.place_inj hx hr hi e'.symm)), h.get r hr]; simp [e]
  · rw [getD_set_ne' (hq i hi), h.rest q hq]
theorem VH.less {x : VecM} {L : List Nat} {s : Nat → Nat} (h : VH x L s) (hx : x.right = true) {i k a : Nat} (hi : (i : Int) < x.n) (hk : (k : Int) < x.n) :
    VH x (L.set (x.place i) (fsub (L.getD (x.place i) 0) (fmul a (L.getD (x.place k) 0)))) (lessF s i k a) := by
  rw [h.get i hi, h.get k hk]
  exact h.set hx hi
theorem VH.div {x : VecM} {L : List Nat} {s : Nat → Nat} (h : VH x L s) (hx : x.right = true) {i a : Nat} (hi : (i : Int) < x.n) : VH x (L.set (x.place i) (fdiv (L.getD (x.place i) 0) a)) (divF s i a) := by
  rw [h.get i hi]; exact h.set hx hi
theorem VH.congr {x : VecM} {L : List Nat} {s t : Nat → Nat} (h : VH x L s) (e : ∀ r : Nat, (r : Int) < x.n → s r = t r) : VH x L t := ⟨h.len, fun r hr => (h.get r hr).trans (e r hr), h.rest⟩
theorem VH.final {x : VecM} {L : List Nat} {s : Nat → Nat} (h : VH x L s) (hx : x.right = true) : L = VecMwrite x ((List.range x.n.toNat).map s) := by
  have hn := VecM.right_n hx
  have hm : min x.n.toNat ((List.range x.n.toNat).map s).length = x.n.toNat := by simp
  unfold VecMwrite VecMwriteTo
  rw [hm]
  apply List.ext_getElem?
  intro q
  have hl : L.length = (writes x.ws x.place (fun t => ((List.range x.n.toNat).map s).getD t 0) x.n.toNat).length := by rw [writes_length, h.len]
  by_cases hq : q < L.length
  · have e : L.getD q 0 = (writes x.ws x.place (fun t => ((List.range x.n.toNat).map s).getD t 0) x.n.toNat).getD q 0 := by
      by_cases hp : ∃ r : Nat, (r : Int) < x.n ∧ x.place r = q
      · obtain ⟨r, hr, rfl⟩ := hp
        rw [h.get r hr, writes_at x.n.toNat (fun a b ha hb e => VecM.place_inj hx (by omega) (by omega) e) (fun a ha => VecM.place_lt hx (by omega)) r (by omega)]
        rw [List.getD_eq_getElem?_getD, List.getElem?_map, List.getElem?_range (by omega)]; rfl
      · have hp' : ∀ r : Nat, (r : Int) < x.n → x.place r ≠ q := fun r hr e => hp ⟨r, hr, e⟩
        rw [h.rest q hp', writes_other x.n.toNat fun t ht => hp' t (by omega)]
    rw [List.getD_eq_getElem?_getD, List.getD_eq_getElem?_getD, List.getElem?_eq_getElem hq, List.getElem?_eq_getElem (by omega)] at e
    rw [List.getElem?_eq_getElem hq, List.getElem?_eq_getElem (by omega)]
    simpa using e
  · rw [List.getElem?_eq_none (by omega), List.getElem?_eq_none (by omega)]
section
variable (M : Nat → Nat → Nat) (n : Nat)
def rowIn3 (s : Nat → Nat) (i : Nat) : Nat → (Nat → Nat)
  | 0 => s
  | t + 1 => lessF (rowIn3 s i t) i (i + 1 + t) (M (i + 1 + t) i)
def rowAll3 (s : Nat → Nat) : Nat → (Nat → Nat)
  | 0 => s
  | k + 1 => rowIn3 M (rowAll3 s k) (n - 1 - k) k
def rowIn4 (s : Nat → Nat) (i : Nat) : Nat → (Nat → Nat)
  | 0 => s
  | t + 1 => lessF (rowIn4 s i t) i t (M t i)
def rowAll4 (s : Nat → Nat) : Nat → (Nat → Nat)
  | 0 => s
  | i + 1 => divF (rowIn4 M (rowAll4 s i) i i) i (M i i)
/-- What a system of a kind comes to (as the document says it: row by row). -/
def solveF (k : Int) (s : Nat → Nat) : Nat → Nat :=
  if k = 1 then rowAll M s n else if k = 2 then rowAll2 M n s n else if k = 3 then rowAll3 M n s n else rowAll4 M s n
end
end Sedge
end
section
/-
  Places clear of each other; blocks of numbers written out; small facts for the laws.
-/
set_option linter.unusedSimpArgs false
set_option linter.unusedVariables false
open Go Go.RowKit Sedge
namespace Go.Proofs.Ytcmggfpcbijcjaa
theorem meet_no {x : VecM} {m : MatM} (hx : x.right = true) (hm : m.good = true) (h : meetM (rowM x) m true = false) {r i j : Nat} (hr : (r : Int) < x.n) (hi : (i : Int) < m.rows) (hj : (j : Int) < m.cols) : x.place r ≠ m.place i j := by
  intro e
  have f1 : MatM.full (rowM x) = true := by unfold MatM.full; rw [rowM_good hx]; simp [rowM]; omega
  have f2 : MatM.full m = true := by unfold MatM.full; rw [hm]; simp; omega
  have px := VecM.right_place hx hr
  have pm := MatM.good_place hm hi hj
  have hn := VecM.right_n hx
  have hmn := m.good_n hm
  unfold VecM.place MatM.place at e
  have e' : x.off + r * x.inc = m.off + i + j * m.ld := by omega
  have k1 : (r : Int) * x.inc ≤ (x.n - 1) * x.inc := Int.mul_le_mul_of_nonneg_right (by omega) (by omega)
  have k2 : (j : Int) * m.ld ≤ (m.cols - 1) * m.ld := Int.mul_le_mul_of_nonneg_right (by omega) (by omega)
  unfold meetM spanLo spanHi at h
  rw [f1, f2] at h
  simp [rowM] at h
  omega
theorem _root_.Sedge.But.fs_ne {w w' : World} {a g c n : Nat} {ws : List Nat} (hb : But w [g] w') (h : FS w (.slice (some ⟨a, 0, none⟩) n c) ws) (hne : a ≠ g) : FS w' (.slice (some ⟨a, 0, none⟩) n c) ws := by
  obtain ⟨hl, a', cap, hv, h0, hc⟩ := h
  refine ⟨hl, a', cap, hv, h0, fun i hi => ?_⟩
  obtain ⟨blk, o, b, he, h1, h2⟩ := hc i hi
  refine ⟨blk, o, b, he, ?_, h2⟩
  have e : blk = a := by
    have e2 := hv
    simp only [Value.slice.injEq] at e2
    rw [he] at e2
    have e3 := e2.1
    simp only [Option.some.injEq, Addr.mk.injEq] at e3
    exact e3.1.symm
  rw [hb.cell (World.block_lt_of_cell? w _ h1) (by rw [e]; simpa using hne)]; exact h1
theorem meetM_false (x y : MatM) : meetM x y false = false := by unfold meetM; simp
theorem frozen_of_block' {w : World} {p i : Nat} {cs : Array Value} {e : TypeId} (h : w.heap[p]? = some (.cells cs e (0, 0))) : w.frozen? ⟨p, i, none⟩ = false := by
  unfold World.frozen?; simp [h]
theorem great_no {m : MatM} (h : MatM.great m = false) : m.ws.length ≤ 1000 ∧ m.rows ≤ 20 ∧ m.cols ≤ 20 := by simp [MatM.great] at h; omega
theorem long_no' {a : VecM} (h : VecM.long a = false) : a.ws.length ≤ 1000 ∧ a.n ≤ 60 := by simp [VecM.long] at h; omega
theorem FW.lit {w : World} {t : TypeId} (l : List Nat) (h : ∀ x ∈ l, IsF x x) : FW (w.alloc (.cells (l.map (Value.float .f64)).toArray t)) w.heap.size l := by
  refine ⟨(l.map (Value.float .f64)).toArray, t, by show (w.heap.push _)[w.heap.size]? = _; simp, by simp, fun i hi => ⟨l.getD i 0, ?_, ?_⟩⟩
  · simp [List.getD_eq_getElem?_getD, hi]
  · rw [List.getD_eq_getElem?_getD, List.getElem?_eq_getElem hi]
    exact h _ (List.getElem_mem hi)
theorem FW.lit' {w : World} {t : TypeId} (l : List Nat) (h : ∀ x ∈ l, IsF x x) (n : Nat) (hn : n = w.heap.size) : FW (w.alloc (.cells (l.map (Value.float .f64)).toArray t)) n l := by subst hn; exact FW.lit l h
end Go.Proofs.Ytcmggfpcbijcjaa
end
section
/-
  Contracts: gemv.row, at, begin, Mul's closure, columns.
-/
set_option linter.unusedSimpArgs false
set_option linter.unusedVariables false
open Go Go.RowKit Sedge
namespace Go.Proofs.Ytcmggfpcbijcjaa
set_option maxRecDepth 100000 in
set_option maxHeartbeats 1000000 in
/-- gemv.row. -/
theorem vrow_any (x : VecM) (a : Option Addr) (l c : Nat) (w : World) :
   Calls Try.prog 196 #[.agg #[.slice a l c, .int .i64 x.off, .int .i64 x.n, .int .i64 x.inc]] w (fun e w' => e = .returned (.agg #[.slice a l c, .int .i64 x.off, .int .i64 1, .int .i64 x.n, .int .i64 x.inc]) ∧ ∃ o n, w' = ext w o n) := by
  go_enter Try.func196, Try.ntmps196
  refine seq_stop ?_
  go_wp2
  refine stop_go (fun W hW => ?_)
  have s1 : w.heap.size < W.heap.size := by rw [hW]; simp only [World.size_alloc]; omega
  have b1 : ∀ i, W.cell? ⟨w.heap.size, i, none⟩ = (#[.slice a l c, .int .i64 x.off, .int .i64 x.n, .int .i64 x.inc] : Array Value)[i]? := by intro i; rw [hW]; go_simp
  have f1 : ∀ i, W.frozen? ⟨w.heap.size, i, none⟩ = false := by intro i; rw [hW]; go_simp
  have s2 : w.heap.size + 1 < W.heap.size := by rw [hW]; simp only [World.size_alloc]; omega
  have b2 : ∀ i, W.cell? ⟨w.heap.size + 1, i, none⟩ = (#[.slice none 0 0, .int .i64 0, .int .i64 0, .int .i64 0, .int .i64 0] : Array Value)[i]? := by intro i; rw [hW]; go_simp
  have f2 : ∀ i, W.frozen? ⟨w.heap.size + 1, i, none⟩ = false := by intro i; rw [hW]; go_simp
  have g0 : Grew w W := by rw [hW]; exact ((Grew.refl _).alloc _).alloc _
  clear hW
  go_wp2
  refine bodyPost_ret (v := .agg #[.slice a l c, .int .i64 x.off, .int .i64 1, .int .i64 x.n, .int .i64 x.inc]) (by simp [results, Try.results196, go_sem, *]) rfl ?_
  exact ⟨rfl, by (show Grew _ _; repeat (first | (with_reducible exact Grew.refl _) | (with_reducible assumption) | (with_reducible exact Grew.same_o) | (with_reducible exact Grew.app_o) | (with_reducible refine Grew.ext ?_ _ _) | (with_reducible refine Grew.alloc ?_ _) | ((with_reducible refine Grew.setCell ?_ ?_ _); rotate_left; (focus (dsimp only; first | omega | (simp only [size_ext, World.size_alloc, Array.size_append]; omega)))) | (with_reducible refine Grew.drewN ?_ _) | (with_reducible refine Grew.drew ?_)))⟩
set_option maxRecDepth 100000 in
set_option maxHeartbeats 1000000 in
/-- gemv.at. -/
theorem gat_any (x : VecM) (g cap i : Nat) (w : World) (hx : x.right = true) (hi : (i : Int) < x.n) (hl : x.ws.length ≤ 1000000) :
   Calls Try.prog 160 #[.agg #[.slice (some ⟨g, 0, none⟩) x.ws.length cap, .int .i64 x.off, .int .i64 x.n, .int .i64 x.inc], .int .i64 i] w
     (fun e w' => e = .returned (.pointer (some ⟨g, x.place i, none⟩)) ∧ ∃ o n, w' = ext w o n) := by
  have hp := VecM.right_place hx hi
  have hn := VecM.right_n hx
  have r1 : IntKind.i64.wrap (i * x.inc) = i * x.inc := IntWalk.i64_in _ (by omega)
  have r2 : IntKind.i64.wrap (x.off + i * x.inc) = x.off + i * x.inc := IntWalk.i64_in _ (by omega)
  unfold VecM.place
  clear hx
  go_enter Try.func160, Try.ntmps160
  refine seq_stop ?_
  go_wp2
  refine stop_go (fun W hW => ?_)
  have s1 : w.heap.size < W.heap.size := by rw [hW]; simp only [World.size_alloc]; omega
  have b1 : ∀ i, W.cell? ⟨w.heap.size, i, none⟩ = (#[.slice (some ⟨g, 0, none⟩) x.ws.length cap, .int .i64 x.off, .int .i64 x.n, .int .i64 x.inc] : Array Value)[i]? := by intro i; rw [hW]; go_simp
  have g0 : Grew w W := by rw [hW]; exact (Grew.refl _).alloc _
  clear hW
  go_wp2
  go_ret
  exact ⟨rfl, by (show Grew _ _; repeat (first | (with_reducible exact Grew.refl _) | (with_reducible assumption) | (with_reducible exact Grew.same_o) | (with_reducible exact Grew.app_o) | (with_reducible refine Grew.ext ?_ _ _) | (with_reducible refine Grew.alloc ?_ _) | ((with_reducible refine Grew.setCell ?_ ?_ _); rotate_left; (focus (dsimp only; first | omega | (simp only [size_ext, World.size_alloc, Array.size_append]; omega)))) | (with_reducible refine Grew.drewN ?_ _) | (with_reducible refine Grew.drew ?_)))⟩
/-- A good matrix' column is right. -/
theorem colV_right {m : MatM} (hm : m.good = true) {j : Nat} (hj : (j : Int) < m.cols) (h0 : 0 < m.rows) : (colV m j).right = true := by
  have hn := MatM.good_n hm
  have hp := MatM.good_place hm (i := (m.rows - 1).toNat) (j := j) (by omega) hj
  have hp0 := MatM.good_place hm (i := 0) (j := j) (by omega) hj
  unfold VecM.right colV fitsB
  simp only [h0, if_true, Bool.and_eq_true, Bool.or_eq_true, decide_eq_true_eq]
  rw [Int.toNat_of_nonneg (by omega)] at hp
  simp only [Int.natCast_zero, Int.add_zero] at hp0
  refine ⟨by omega, .inr ⟨by omega, by omega⟩⟩
/-- A number that is begun. -/
def beginF (β z : Nat) : Nat := if feq0 β = true then 0 else fmul β z
def stepV (F : Nat → Nat) (s : Nat → Nat) (i r : Nat) : Nat := if r < i then F (s r) else s r
theorem stepV_set {x : VecM} {L : List Nat} {s : Nat → Nat} {F : Nat → Nat} {i v : Nat} (h : VH x L (stepV F s i)) (hx : x.right = true) (hi : (i : Int) < x.n) (hv : v = F (s i)) : VH x (L.set (x.place i) v) (stepV F s (i + 1)) := by
  refine (h.set hx hi).congr fun r hr => ?_
  unfold stepV
  by_cases e : r = i
  · subst e; simp [hv]
  · rw [if_neg e]
    by_cases h2 : r < i
    · rw [if_pos h2, if_pos (by omega)]
    · rw [if_neg h2, if_neg (by omega)]
set_option maxRecDepth 100000 in
set_option maxHeartbeats 2000000 in
/-- gemv.begin. -/
theorem begin_any (b β : Nat) (y : VecM) (g cap : Nat) (s : Nat → Nat) (L0 : List Nat) (w : World) (hb : IsF b β) (hF : FW w g L0) (hV : VH y L0 s) (hy : y.right = true) (hl : y.ws.length ≤ 1000000) :
   Calls Try.prog 145 #[.float .f64 b, .agg #[.slice (some ⟨g, 0, none⟩) y.ws.length cap, .int .i64 y.off, .int .i64 y.n, .int .i64 y.inc]] w
     (fun e w' => e = .returned (.tuple #[]) ∧ But w [g] w' ∧ ∃ L, FW w' g L ∧ VH y L (fun r => beginF β (s r))) := by
  have hn := VecM.right_n hy
  have hnl := VecM.right_nle hy hl
  have hltg := hF.lt
  have Hy := hid hy
  have hat : ∀ i : Nat, (i : Int) < y.n → ∀ w', Calls Try.prog 160 #[.agg #[.slice (some ⟨g, 0, none⟩) y.ws.length cap, .int .i64 y.off, .int .i64 y.n, .int .i64 y.inc], .int .i64 i] w' (fun e w2 => e = .returned (.pointer (some ⟨g, y.place i, none⟩)) ∧ ∃ o n, w2 = ext w' o n) := fun i hi w' => gat_any y g cap i w' hy hi hl
  clear hy
  cases hz : feq0 β
  · have hz' : (FloatKind.f64.format.order b 0 == some Ordering.eq) = false := by rw [← hz]; unfold feq0; rw [← hb.order isF_zero]; rfl
    have hbf : ∀ z, fmul β z = beginF β z := fun z => by unfold beginF; rw [hz]; rfl
    go_enter Try.func145, Try.ntmps145
    refine seq_stop ?_
    go_wp2
    refine stop_go (fun W hW => ?_)
    have s1 : w.heap.size < W.heap.size := by rw [hW]; simp only [World.size_alloc]; omega
    have b1 : ∀ i, W.cell? ⟨w.heap.size, i, none⟩ = (#[.slice (some ⟨g, 0, none⟩) y.ws.length cap, .int .i64 y.off, .int .i64 y.n, .int .i64 y.inc] : Array Value)[i]? := by intro i; rw [hW]; go_simp
    have g0 : Grew w W := by rw [hW]; exact (Grew.refl _).alloc _
    clear hW
    have zW := g0.below.size
    have bw : ∀ w', But W [g] w' → But w [g] w' := fun w' h => ((But.refl w [g]).grew g0).trans h (fun _ hb => .inl hb)
    have cU : ∀ w', But W [g] w' → ∀ i, w'.cell? ⟨w.heap.size, i, none⟩ = (#[.slice (some ⟨g, 0, none⟩) y.ws.length cap, .int .i64 y.off, .int .i64 y.n, .int .i64 y.inc] : Array Value)[i]? := fun w' h i => (h.cell s1 (by simp; omega)).trans (b1 i)
    have hFW := hF.grew g0
    go_wp2
    go_loopw [8] (fun c wr => ∃ (i : Nat) (L : List Nat), (i : Int) ≤ y.n ∧ c = .int .i64 i ∧ But W [g] wr ∧ FW wr g L ∧ VH y L (stepV (beginF β) s i)) (fun c _ => (y.n - intOf c).toNat)
    case atStart => exact ⟨0, L0, hn.1, rfl, But.refl _ _, hFW, hV.congr fun r _ => by simp [stepV]⟩
    case round =>
      obtain ⟨i, L, hi, rfl, hB, hL, hS⟩ := hrel
      have tT := cU _ hB
      have zB := hB.size
      have kT : w.heap.size < wr.heap.size := by omega
      by_cases hlt : (i : Int) < y.n
      · have hlt' := hid hlt
        have hati := hat i hlt
        obtain ⟨r0, hr0, hf0⟩ := hL.get (i := y.place i) (by rw [hS.len]; exact VecM.place_lt Hy.out hlt)
        have gl := hL.lt
        have fz : ∀ i, wr.frozen? ⟨g, i, none⟩ = false := hL.notFrozen
        go_wp2_with (first | (go_at_call 160; ((with_reducible refine (hati _).mono ?_); rintro e w1 ⟨rfl, o1, n1, rfl⟩)) | ((with_reducible refine upon_id ?_); refine upon_fop rfl (by assumption) (by assumption) ?_; intro rr nn hr))
        go_roundw
        case rel => exact ⟨i + 1, _, by have := hlt'.out; omega, by go_num, (hB.setc hL (by simp)).grew ⟨_, _, rfl⟩, (hL.setc (k := y.place i) hr).ext _ _, stepV_set hS Hy.out hlt'.out (by rw [← hbf, hS.get i hlt'.out]; unfold stepV; rw [if_neg (by omega)]; rfl)⟩
        case measure => (have := hlt'.out; simp [intOf]; omega)
      · go_wp2
        go_end0
        exact ⟨rfl, bw _ hB, L, hL, hS.congr fun r hr => by unfold stepV; rw [if_pos (by omega)]⟩
  · have hz' : (FloatKind.f64.format.order b 0 == some Ordering.eq) = true := by rw [← hz]; unfold feq0; rw [← hb.order isF_zero]; rfl
    have hbf : ∀ z, 0 = beginF β z := fun z => by unfold beginF; rw [hz]; rfl
    go_enter Try.func145, Try.ntmps145
    refine seq_stop ?_
    go_wp2
    refine stop_go (fun W hW => ?_)
    have s1 : w.heap.size < W.heap.size := by rw [hW]; simp only [World.size_alloc]; omega
    have b1 : ∀ i, W.cell? ⟨w.heap.size, i, none⟩ = (#[.slice (some ⟨g, 0, none⟩) y.ws.length cap, .int .i64 y.off, .int .i64 y.n, .int .i64 y.inc] : Array Value)[i]? := by intro i; rw [hW]; go_simp
    have g0 : Grew w W := by rw [hW]; exact (Grew.refl _).alloc _
    clear hW
    have zW := g0.below.size
    have bw : ∀ w', But W [g] w' → But w [g] w' := fun w' h => ((But.refl w [g]).grew g0).trans h (fun _ hb => .inl hb)
    have cU : ∀ w', But W [g] w' → ∀ i, w'.cell? ⟨w.heap.size, i, none⟩ = (#[.slice (some ⟨g, 0, none⟩) y.ws.length cap, .int .i64 y.off, .int .i64 y.n, .int .i64 y.inc] : Array Value)[i]? := fun w' h i => (h.cell s1 (by simp; omega)).trans (b1 i)
    have hFW := hF.grew g0
    go_wp2
    go_loopw [8] (fun c wr => ∃ (i : Nat) (L : List Nat), (i : Int) ≤ y.n ∧ c = .int .i64 i ∧ But W [g] wr ∧ FW wr g L ∧ VH y L (stepV (beginF β) s i)) (fun c _ => (y.n - intOf c).toNat)
    case atStart => exact ⟨0, L0, hn.1, rfl, But.refl _ _, hFW, hV.congr fun r _ => by simp [stepV]⟩
    case round =>
      obtain ⟨i, L, hi, rfl, hB, hL, hS⟩ := hrel
      have tT := cU _ hB
      have zB := hB.size
      have kT : w.heap.size < wr.heap.size := by omega
      by_cases hlt : (i : Int) < y.n
      · have hlt' := hid hlt
        have hati := hat i hlt
        obtain ⟨r0, hr0, hf0⟩ := hL.get (i := y.place i) (by rw [hS.len]; exact VecM.place_lt Hy.out hlt)
        have gl := hL.lt
        have fz : ∀ i, wr.frozen? ⟨g, i, none⟩ = false := hL.notFrozen
        go_wp2_with (first | (go_at_call 160; ((with_reducible refine (hati _).mono ?_); rintro e w1 ⟨rfl, o1, n1, rfl⟩)))
        go_roundw
        case rel => exact ⟨i + 1, _, by have := hlt'.out; omega, by go_num, (hB.setc hL (by simp)).grew ⟨_, _, rfl⟩, (hL.setc (k := y.place i) isF_zero).ext _ _, stepV_set hS Hy.out hlt'.out (hbf _)⟩
        case measure => (have := hlt'.out; simp [intOf]; omega)
      · go_wp2
        go_end0
        exact ⟨rfl, bw _ hB, L, hL, hS.congr fun r hr => by unfold stepV; rw [if_pos (by omega)]⟩
/-- gemv.Mul's closure. -/
theorem mcl_any (v x a V X α Ta : Nat) (w : World) (hv : IsF v V) (hx : IsF x X) (ha : IsF a α) (hca : ∀ i, w.cell? ⟨Ta, i, none⟩ = (#[.float .f64 a] : Array Value)[i]?) :
   Calls Try.prog 147 #[.float .f64 v, .float .f64 x, .pointer (some ⟨Ta, 0, none⟩)] w (fun e w' => ∃ r, e = .returned (.float .f64 r) ∧ IsF r (fmul (fmul α X) V) ∧ ∃ o n, w' = ext w o n) := by
  go_enter Try.func147, Try.ntmps147
  go_wp2_with (first | ((with_reducible refine upon_id ?_); refine upon_fop rfl (by assumption) (by assumption) ?_; intro rr nn hr))
  go_ret
  exact ⟨_, rfl, by assumption, by (show Grew _ _; repeat (first | (with_reducible exact Grew.refl _) | (with_reducible assumption) | (with_reducible exact Grew.same_o) | (with_reducible exact Grew.app_o) | (with_reducible refine Grew.ext ?_ _ _) | (with_reducible refine Grew.alloc ?_ _) | ((with_reducible refine Grew.setCell ?_ ?_ _); rotate_left; (focus (dsimp only; first | omega | (simp only [size_ext, World.size_alloc, Array.size_append]; omega)))) | (with_reducible refine Grew.drewN ?_ _) | (with_reducible refine Grew.drew ?_)))⟩
end Go.Proofs.Ytcmggfpcbijcjaa
end
section
/-
  Contracts: axes.each; axes.Scal, axes.Shift, axes.Axpy (lists apart): closures that write a vector's numbers.
-/
set_option linter.unusedSimpArgs false
set_option linter.unusedVariables false
open Go Go.RowKit Sedge
namespace Go.Proofs.Ytcmggfpcbijcjaa
set_option maxRecDepth 100000 in
set_option maxHeartbeats 1000000 in
/-- axes.each. -/
theorem eachScal (x : VecM) (aA : Option Addr) (g o cap : Nat) (q1 : Value) (R : World → Nat → World → Prop) (G : List Nat) (w : World) (hx : x.right = true) (hl : x.ws.length ≤ 1000000)
    (hA : 0 < x.n → aA = some ⟨g, o, none⟩) (h0 : ∀ W1, Grew w W1 → R W1 0 W1) (hb : ∀ W1 i w', R W1 i w' → But W1 G w') (hG : ∀ k ∈ G, k < w.heap.size)
    (hs : ∀ W1 (i : Nat) w', Grew w W1 → (i : Int) < x.n → R W1 i w' → Calls Try.prog 172 #[.int .i64 i, .pointer (some ⟨g, o + x.place i, none⟩), q1] w' (fun e w2 => e = .returned (.tuple #[]) ∧ R W1 (i + 1) w2)) :
   Calls Try.prog 117 #[.agg #[.slice aA x.ws.length cap, .int .i64 x.off, .int .i64 x.n, .int .i64 x.inc], .func (.func 172) #[] #[q1]] w
     (fun e w' => e = .returned (.tuple #[]) ∧ ∃ W1, Grew w W1 ∧ R W1 x.n.toNat w') := by
  have hn := VecM.right_n hx
  have hnl := VecM.right_nle hx hl
  have Hx := hid hx
  clear hx
  go_enter Try.func117, Try.ntmps117
  refine seq_stop ?_
  go_wp2
  refine stop_go (fun W hW => ?_)
  have s1 : w.heap.size < W.heap.size := by rw [hW]; simp only [World.size_alloc]; omega
  have b1 : ∀ i, W.cell? ⟨w.heap.size, i, none⟩ = (#[.slice aA x.ws.length cap, .int .i64 x.off, .int .i64 x.n, .int .i64 x.inc] : Array Value)[i]? := by intro i; rw [hW]; go_simp
  have g0 : Grew w W := by rw [hW]; exact (Grew.refl _).alloc _
  clear hW
  have hR0 := h0 W g0
  clear h0
  go_wp2
  go_loopw [7] (fun c wr => ∃ (i : Nat), (i : Int) ≤ x.n ∧ c = .int .i64 i ∧ R W i wr) (fun c _ => (x.n - intOf c).toNat)
  case atStart => exact ⟨0, hn.1, rfl, hR0⟩
  case round =>
    obtain ⟨i, hi, rfl, hR⟩ := hrel
    have hB := hb W i wr hR
    have tT : ∀ i, wr.cell? ⟨w.heap.size, i, none⟩ = (#[.slice aA x.ws.length cap, .int .i64 x.off, .int .i64 x.n, .int .i64 x.inc] : Array Value)[i]? := fun i => (hB.cell s1 (fun h => by have := hG _ h; omega)).trans (b1 i)
    have zB := hB.size
    have kT : w.heap.size < wr.heap.size := by omega
    by_cases hlt : (i : Int) < x.n
    · have hp := VecM.right_place Hx.out hlt
      have r1 : IntKind.i64.wrap (i * x.inc) = i * x.inc := IntWalk.i64_in _ (by omega)
      have r2 : IntKind.i64.wrap (x.off + i * x.inc) = x.off + i * x.inc := IntWalk.i64_in _ (by omega)
      have e1 : 0 ≤ x.off + i * x.inc := by omega
      have e2 : x.off + i * x.inc < x.ws.length := by omega
      have hcall := hs W i wr g0 hlt hR
      unfold VecM.place at hcall
      obtain rfl := hA (by omega)
      have Hlt := hid hlt
      clear hs hb
      go_wp2_with (first | (go_at_call 172; ((with_reducible refine (hcall).mono ?_); rintro e w1 ⟨rfl, hR2⟩)))
      go_roundw
      case rel => exact ⟨i + 1, by (have := Hlt.out; omega), by go_num, hR2⟩
      case measure => (have := Hlt.out; simp [intOf]; omega)
    · have e : i = x.n.toNat := by omega
      rw [e] at hR
      clear hs hb
      go_wp2
      go_end0
      exact ⟨rfl, W, g0, hR⟩
set_option maxRecDepth 100000 in
set_option maxHeartbeats 1000000 in
/-- axes.each. -/
theorem eachShift (x : VecM) (aA : Option Addr) (g o cap : Nat) (q1 : Value) (R : World → Nat → World → Prop) (G : List Nat) (w : World) (hx : x.right = true) (hl : x.ws.length ≤ 1000000)
    (hA : 0 < x.n → aA = some ⟨g, o, none⟩) (h0 : ∀ W1, Grew w W1 → R W1 0 W1) (hb : ∀ W1 i w', R W1 i w' → But W1 G w') (hG : ∀ k ∈ G, k < w.heap.size)
    (hs : ∀ W1 (i : Nat) w', Grew w W1 → (i : Int) < x.n → R W1 i w' → Calls Try.prog 161 #[.int .i64 i, .pointer (some ⟨g, o + x.place i, none⟩), q1] w' (fun e w2 => e = .returned (.tuple #[]) ∧ R W1 (i + 1) w2)) :
   Calls Try.prog 117 #[.agg #[.slice aA x.ws.length cap, .int .i64 x.off, .int .i64 x.n, .int .i64 x.inc], .func (.func 161) #[] #[q1]] w
     (fun e w' => e = .returned (.tuple #[]) ∧ ∃ W1, Grew w W1 ∧ R W1 x.n.toNat w') := by
  have hn := VecM.right_n hx
  have hnl := VecM.right_nle hx hl
  have Hx := hid hx
  clear hx
  go_enter Try.func117, Try.ntmps117
  refine seq_stop ?_
  go_wp2
  refine stop_go (fun W hW => ?_)
  have s1 : w.heap.size < W.heap.size := by rw [hW]; simp only [World.size_alloc]; omega
  have b1 : ∀ i, W.cell? ⟨w.heap.size, i, none⟩ = (#[.slice aA x.ws.length cap, .int .i64 x.off, .int .i64 x.n, .int .i64 x.inc] : Array Value)[i]? := by intro i; rw [hW]; go_simp
  have g0 : Grew w W := by rw [hW]; exact (Grew.refl _).alloc _
  clear hW
  have hR0 := h0 W g0
  clear h0
  go_wp2
  go_loopw [7] (fun c wr => ∃ (i : Nat), (i : Int) ≤ x.n ∧ c = .int .i64 i ∧ R W i wr) (fun c _ => (x.n - intOf c).toNat)
  case atStart => exact ⟨0, hn.1, rfl, hR0⟩
  case round =>
    obtain ⟨i, hi, rfl, hR⟩ := hrel
    have hB := hb W i wr hR
    have tT : ∀ i, wr.cell? ⟨w.heap.size, i, none⟩ = (#[.slice aA x.ws.length cap, .int .i64 x.off, .int .i64 x.n, .int .i64 x.inc] : Array Value)[i]? := fun i => (hB.cell s1 (fun h => by have := hG _ h; omega)).trans (b1 i)
    have zB := hB.size
    have kT : w.heap.size < wr.heap.size := by omega
    by_cases hlt : (i : Int) < x.n
    · have hp := VecM.right_place Hx.out hlt
      have r1 : IntKind.i64.wrap (i * x.inc) = i * x.inc := IntWalk.i64_in _ (by omega)
      have r2 : IntKind.i64.wrap (x.off + i * x.inc) = x.off + i * x.inc := IntWalk.i64_in _ (by omega)
      have e1 : 0 ≤ x.off + i * x.inc := by omega
      have e2 : x.off + i * x.inc < x.ws.length := by omega
      have hcall := hs W i wr g0 hlt hR
      unfold VecM.place at hcall
      obtain rfl := hA (by omega)
      have Hlt := hid hlt
      clear hs hb
      go_wp2_with (first | (go_at_call 161; ((with_reducible refine (hcall).mono ?_); rintro e w1 ⟨rfl, hR2⟩)))
      go_roundw
      case rel => exact ⟨i + 1, by (have := Hlt.out; omega), by go_num, hR2⟩
      case measure => (have := Hlt.out; simp [intOf]; omega)
    · have e : i = x.n.toNat := by omega
      rw [e] at hR
      clear hs hb
      go_wp2
      go_end0
      exact ⟨rfl, W, g0, hR⟩
set_option maxRecDepth 100000 in
set_option maxHeartbeats 1000000 in
/-- axes.each. -/
theorem eachSign (x : VecM) (aA : Option Addr) (g o cap : Nat) (q1 : Value) (R : World → Nat → World → Prop) (G : List Nat) (w : World) (hx : x.right = true) (hl : x.ws.length ≤ 1000000)
    (hA : 0 < x.n → aA = some ⟨g, o, none⟩) (h0 : ∀ W1, Grew w W1 → R W1 0 W1) (hb : ∀ W1 i w', R W1 i w' → But W1 G w') (hG : ∀ k ∈ G, k < w.heap.size)
    (hs : ∀ W1 (i : Nat) w', Grew w W1 → (i : Int) < x.n → R W1 i w' → Calls Try.prog 173 #[.int .i64 i, .pointer (some ⟨g, o + x.place i, none⟩), q1] w' (fun e w2 => e = .returned (.tuple #[]) ∧ R W1 (i + 1) w2)) :
   Calls Try.prog 117 #[.agg #[.slice aA x.ws.length cap, .int .i64 x.off, .int .i64 x.n, .int .i64 x.inc], .func (.func 173) #[] #[q1]] w
     (fun e w' => e = .returned (.tuple #[]) ∧ ∃ W1, Grew w W1 ∧ R W1 x.n.toNat w') := by
  have hn := VecM.right_n hx
  have hnl := VecM.right_nle hx hl
  have Hx := hid hx
  clear hx
  go_enter Try.func117, Try.ntmps117
  refine seq_stop ?_
  go_wp2
  refine stop_go (fun W hW => ?_)
  have s1 : w.heap.size < W.heap.size := by rw [hW]; simp only [World.size_alloc]; omega
  have b1 : ∀ i, W.cell? ⟨w.heap.size, i, none⟩ = (#[.slice aA x.ws.length cap, .int .i64 x.off, .int .i64 x.n, .int .i64 x.inc] : Array Value)[i]? := by intro i; rw [hW]; go_simp
  have g0 : Grew w W := by rw [hW]; exact (Grew.refl _).alloc _
  clear hW
  have hR0 := h0 W g0
  clear h0
  go_wp2
  go_loopw [7] (fun c wr => ∃ (i : Nat), (i : Int) ≤ x.n ∧ c = .int .i64 i ∧ R W i wr) (fun c _ => (x.n - intOf c).toNat)
  case atStart => exact ⟨0, hn.1, rfl, hR0⟩
  case round =>
    obtain ⟨i, hi, rfl, hR⟩ := hrel
    have hB := hb W i wr hR
    have tT : ∀ i, wr.cell? ⟨w.heap.size, i, none⟩ = (#[.slice aA x.ws.length cap, .int .i64 x.off, .int .i64 x.n, .int .i64 x.inc] : Array Value)[i]? := fun i => (hB.cell s1 (fun h => by have := hG _ h; omega)).trans (b1 i)
    have zB := hB.size
    have kT : w.heap.size < wr.heap.size := by omega
    by_cases hlt : (i : Int) < x.n
    · have hp := VecM.right_place Hx.out hlt
      have r1 : IntKind.i64.wrap (i * x.inc) = i * x.inc := IntWalk.i64_in _ (by omega)
      have r2 : IntKind.i64.wrap (x.off + i * x.inc) = x.off + i * x.inc := IntWalk.i64_in _ (by omega)
      have e1 : 0 ≤ x.off + i * x.inc := by omega
      have e2 : x.off + i * x.inc < x.ws.length := by omega
      have hcall := hs W i wr g0 hlt hR
      unfold VecM.place at hcall
      obtain rfl := hA (by omega)
      have Hlt := hid hlt
      clear hs hb
      go_wp2_with (first | (go_at_call 173; ((with_reducible refine (hcall).mono ?_); rintro e w1 ⟨rfl, hR2⟩)))
      go_roundw
      case rel => exact ⟨i + 1, by (have := Hlt.out; omega), by go_num, hR2⟩
      case measure => (have := Hlt.out; simp [intOf]; omega)
    · have e : i = x.n.toNat := by omega
      rw [e] at hR
      clear hs hb
      go_wp2
      go_end0
      exact ⟨rfl, W, g0, hR⟩
set_option maxRecDepth 100000 in
set_option maxHeartbeats 1000000 in
/-- axes.each. -/
theorem eachAxpy (x : VecM) (aA : Option Addr) (g o cap : Nat) (q1 q2 : Value) (R : World → Nat → World → Prop) (G : List Nat) (w : World) (hx : x.right = true) (hl : x.ws.length ≤ 1000000)
    (hA : 0 < x.n → aA = some ⟨g, o, none⟩) (h0 : ∀ W1, Grew w W1 → R W1 0 W1) (hb : ∀ W1 i w', R W1 i w' → But W1 G w') (hG : ∀ k ∈ G, k < w.heap.size)
    (hs : ∀ W1 (i : Nat) w', Grew w W1 → (i : Int) < x.n → R W1 i w' → Calls Try.prog 118 #[.int .i64 i, .pointer (some ⟨g, o + x.place i, none⟩), q1, q2] w' (fun e w2 => e = .returned (.tuple #[]) ∧ R W1 (i + 1) w2)) :
   Calls Try.prog 117 #[.agg #[.slice aA x.ws.length cap, .int .i64 x.off, .int .i64 x.n, .int .i64 x.inc], .func (.func 118) #[] #[q1, q2]] w
     (fun e w' => e = .returned (.tuple #[]) ∧ ∃ W1, Grew w W1 ∧ R W1 x.n.toNat w') := by
  have hn := VecM.right_n hx
  have hnl := VecM.right_nle hx hl
  have Hx := hid hx
  clear hx
  go_enter Try.func117, Try.ntmps117
  refine seq_stop ?_
  go_wp2
  refine stop_go (fun W hW => ?_)
  have s1 : w.heap.size < W.heap.size := by rw [hW]; simp only [World.size_alloc]; omega
  have b1 : ∀ i, W.cell? ⟨w.heap.size, i, none⟩ = (#[.slice aA x.ws.length cap, .int .i64 x.off, .int .i64 x.n, .int .i64 x.inc] : Array Value)[i]? := by intro i; rw [hW]; go_simp
  have g0 : Grew w W := by rw [hW]; exact (Grew.refl _).alloc _
  clear hW
  have hR0 := h0 W g0
  clear h0
  go_wp2
  go_loopw [7] (fun c wr => ∃ (i : Nat), (i : Int) ≤ x.n ∧ c = .int .i64 i ∧ R W i wr) (fun c _ => (x.n - intOf c).toNat)
  case atStart => exact ⟨0, hn.1, rfl, hR0⟩
  case round =>
    obtain ⟨i, hi, rfl, hR⟩ := hrel
    have hB := hb W i wr hR
    have tT : ∀ i, wr.cell? ⟨w.heap.size, i, none⟩ = (#[.slice aA x.ws.length cap, .int .i64 x.off, .int .i64 x.n, .int .i64 x.inc] : Array Value)[i]? := fun i => (hB.cell s1 (fun h => by have := hG _ h; omega)).trans (b1 i)
    have zB := hB.size
    have kT : w.heap.size < wr.heap.size := by omega
    by_cases hlt : (i : Int) < x.n
    · have hp := VecM.right_place Hx.out hlt
      have r1 : IntKind.i64.wrap (i * x.inc) = i * x.inc := IntWalk.i64_in _ (by omega)
      have r2 : IntKind.i64.wrap (x.off + i * x.inc) = x.off + i * x.inc := IntWalk.i64_in _ (by omega)
      have e1 : 0 ≤ x.off + i * x.inc := by omega
      have e2 : x.off + i * x.inc < x.ws.length := by omega
      have hcall := hs W i wr g0 hlt hR
      unfold VecM.place at hcall
      obtain rfl := hA (by omega)
      have Hlt := hid hlt
      clear hs hb
      go_wp2_with (first | (go_at_call 118; ((with_reducible refine (hcall).mono ?_); rintro e w1 ⟨rfl, hR2⟩)))
      go_roundw
      case rel => exact ⟨i + 1, by (have := Hlt.out; omega), by go_num, hR2⟩
      case measure => (have := Hlt.out; simp [intOf]; omega)
    · have e : i = x.n.toNat := by omega
      rw [e] at hR
      clear hs hb
      go_wp2
      go_end0
      exact ⟨rfl, W, g0, hR⟩
set_option maxRecDepth 100000 in
set_option maxHeartbeats 1000000 in
theorem scl_any (i pl g T a α r0 z0 : Nat) (w : World) (hca : ∀ i, w.cell? ⟨T, i, none⟩ = (#[.float .f64 a] : Array Value)[i]?) (ha : IsF a α) (kT : T < w.heap.size) (kg : g < w.heap.size)
    (h3 : w.cell? ⟨g, pl, none⟩ = some (.float .f64 r0)) (f3 : IsF r0 z0) (fz : ∀ i, w.frozen? ⟨g, i, none⟩ = false) :
   Calls Try.prog 172 #[.int .i64 i, .pointer (some ⟨g, pl, none⟩), .pointer (some ⟨T, 0, none⟩)] w
     (fun e w' => e = .returned (.tuple #[]) ∧ ∃ r, IsF r (fmul α z0) ∧ ∃ o n, w' = ext (w.setCell ⟨g, pl, none⟩ (.float .f64 r)) o n) := by
  go_enter Try.func172, Try.ntmps172
  go_wp2
  refine wp_region_R (Grew w) [7] [(3,0), (0,1), (3,2), (3,3), (0,4), (1,5), (3,6), (2,7)] (by kernel_rfl) (by kernel_rfl) (fun _ _ _ _ h _ => h) (by first | exact ⟨_, _, ext_drew⟩ | exact ⟨_, _, drew_ext0⟩ | (show Grew _ _; repeat (first | (with_reducible exact Grew.refl _) | (with_reducible assumption) | (with_reducible exact Grew.same_o) | (with_reducible exact Grew.app_o) | (with_reducible refine Grew.ext ?_ _ _) | (with_reducible refine Grew.alloc ?_ _) | ((with_reducible refine Grew.setCell ?_ ?_ _); rotate_left; (focus (dsimp only; first | omega | (simp only [size_ext, World.size_alloc, Array.size_append]; omega)))) | (with_reducible refine Grew.drewN ?_ _) | (with_reducible refine Grew.drew ?_)))) ?_
  go_wp2_with (first | ((with_reducible refine wpR_id ?_); first | (refine wpR_take (v := ?_) rfl rfl ?_ ?_; rotate_left; (focus (rintro w' ⟨o', n', rfl⟩; go_simp; try with_reducible rfl)); simp only [Act.put, List.setIfInBounds_toArray, List.set_cons_zero, List.set_cons_succ]) | (refine wpR_pure (v := ?_) rfl rfl ?_ ?_; rotate_left; (focus (intro w'; go_simp; try with_reducible rfl)); simp only [Act.put, List.setIfInBounds_toArray, List.set_cons_zero, List.set_cons_succ]) | (refine wpR_takeG (v := ?_) rfl rfl rfl rfl rfl ?_ ?_; rotate_left; (focus (rintro w' ⟨o', n', rfl⟩; go_simp; try with_reducible rfl)); simp only [Act.put, List.setIfInBounds_toArray, List.set_cons_zero, List.set_cons_succ]) | (refine wpR_skip rfl rfl rfl rfl rfl rfl ?_; simp only [Act.put, List.setIfInBounds_toArray, List.set_cons_zero, List.set_cons_succ]) | (refine wpR_skipU rfl rfl rfl rfl rfl ?_; simp only [Act.put, List.setIfInBounds_toArray, List.set_cons_zero, List.set_cons_succ]) | (refine wpR_do rfl rfl (fun K hK => ?_)) | (refine wpR_doG rfl rfl rfl rfl rfl (fun K hK => ?_)) | (refine wpR_last rfl rfl (fun K hK => ?_)) | (refine wpR_nil ?_)) | ((with_reducible refine wpR_go ?_ ?_); (focus (show Grew _ _; repeat (first | (with_reducible exact Grew.refl _) | (with_reducible assumption) | (with_reducible exact Grew.same_o) | (with_reducible exact Grew.app_o) | (with_reducible refine Grew.ext ?_ _ _) | (with_reducible refine Grew.alloc ?_ _) | ((with_reducible refine Grew.setCell ?_ ?_ _); rotate_left; (focus (dsimp only; first | omega | (simp only [size_ext, World.size_alloc, Array.size_append]; omega)))) | (with_reducible refine Grew.drewN ?_ _) | (with_reducible refine Grew.drew ?_))))) | ((with_reducible refine upon_id ?_); refine upon_fop rfl (by assumption) (by assumption) ?_; intro rr nn hr))
  go_end0
  exact ⟨rfl, rr, hr, _, _, (by rw [drewN_ext0]; exact setCell_ext kg _)⟩
set_option maxRecDepth 100000 in
set_option maxHeartbeats 1000000 in
theorem shl_any (i pl g T r0 z0 : Nat) (O : Value) (zs : List Int) (w : World) (hca : ∀ i, w.cell? ⟨T, i, none⟩ = (#[O] : Array Value)[i]?) (hO : IS .i64 w O zs) (hi : i < zs.length) (kT : T < w.heap.size) (kg : g < w.heap.size)
    (h3 : w.cell? ⟨g, pl, none⟩ = some (.float .f64 r0)) (f3 : IsF r0 z0) (fz : ∀ i, w.frozen? ⟨g, i, none⟩ = false) :
   Calls Try.prog 161 #[.int .i64 i, .pointer (some ⟨g, pl, none⟩), .pointer (some ⟨T, 0, none⟩)] w
     (fun e w' => e = .returned (.tuple #[]) ∧ ∃ r, IsF r (fscale z0 (zs.getD i 0)) ∧ ∃ o n, w' = ext (w.setCell ⟨g, pl, none⟩ (.float .f64 r)) o n) := by
  obtain ⟨aO, cO, rfl⟩ := hO.shape
  obtain ⟨blk, o, rfl, hblk, hc⟩ := hO.at.2 (by omega)
  have hlen := hO.len
  have hb := hc i hi
  obtain ⟨z, hz⟩ : ∃ z, z = zs.getD i 0 := ⟨_, rfl⟩
  rw [← hz] at hb ⊢
  clear hc hO hz
  go_enter Try.func161, Try.ntmps161
  go_wp2
  refine wp_region_R (Grew w) [10] [(3,0), (3,1), (3,2), (0,3), (0,4), (3,5), (3,6), (0,7), (1,8), (3,9), (2,10)] (by kernel_rfl) (by kernel_rfl) (fun _ _ _ _ h _ => h) (by first | exact ⟨_, _, ext_drew⟩ | exact ⟨_, _, drew_ext0⟩ | (show Grew _ _; repeat (first | (with_reducible exact Grew.refl _) | (with_reducible assumption) | (with_reducible exact Grew.same_o) | (with_reducible exact Grew.app_o) | (with_reducible refine Grew.ext ?_ _ _) | (with_reducible refine Grew.alloc ?_ _) | ((with_reducible refine Grew.setCell ?_ ?_ _); rotate_left; (focus (dsimp only; first | omega | (simp only [size_ext, World.size_alloc, Array.size_append]; omega)))) | (with_reducible refine Grew.drewN ?_ _) | (with_reducible refine Grew.drew ?_)))) ?_
  go_wp2_with (first | ((with_reducible refine wpR_id ?_); first | (refine wpR_take (v := ?_) rfl rfl ?_ ?_; rotate_left; (focus (rintro w' ⟨o', n', rfl⟩; go_simp; try with_reducible rfl)); simp only [Act.put, List.setIfInBounds_toArray, List.set_cons_zero, List.set_cons_succ]) | (refine wpR_pure (v := ?_) rfl rfl ?_ ?_; rotate_left; (focus (intro w'; go_simp; try with_reducible rfl)); simp only [Act.put, List.setIfInBounds_toArray, List.set_cons_zero, List.set_cons_succ]) | (refine wpR_takeG (v := ?_) rfl rfl rfl rfl rfl ?_ ?_; rotate_left; (focus (rintro w' ⟨o', n', rfl⟩; go_simp; try with_reducible rfl)); simp only [Act.put, List.setIfInBounds_toArray, List.set_cons_zero, List.set_cons_succ]) | (refine wpR_skip rfl rfl rfl rfl rfl rfl ?_; simp only [Act.put, List.setIfInBounds_toArray, List.set_cons_zero, List.set_cons_succ]) | (refine wpR_skipU rfl rfl rfl rfl rfl ?_; simp only [Act.put, List.setIfInBounds_toArray, List.set_cons_zero, List.set_cons_succ]) | (refine wpR_do rfl rfl (fun K hK => ?_)) | (refine wpR_doG rfl rfl rfl rfl rfl (fun K hK => ?_)) | (refine wpR_last rfl rfl (fun K hK => ?_)) | (refine wpR_nil ?_)) | ((with_reducible refine wpR_go ?_ ?_); (focus (show Grew _ _; repeat (first | (with_reducible exact Grew.refl _) | (with_reducible assumption) | (with_reducible exact Grew.same_o) | (with_reducible exact Grew.app_o) | (with_reducible refine Grew.ext ?_ _ _) | (with_reducible refine Grew.alloc ?_ _) | ((with_reducible refine Grew.setCell ?_ ?_ _); rotate_left; (focus (dsimp only; first | omega | (simp only [size_ext, World.size_alloc, Array.size_append]; omega)))) | (with_reducible refine Grew.drewN ?_ _) | (with_reducible refine Grew.drew ?_))))) | ((with_reducible refine upon_id ?_); refine upon_fop rfl (by assumption) (by assumption) ?_; intro rr nn hr) | (go_at_call 162; ((with_reducible refine (nscale_any r0 z0 z _ f3).mono ?_); rintro e w1 ⟨rr, rfl, hr, o1, n1, rfl⟩)))
  go_end0
  exact ⟨rfl, rr, hr, _, _, rfl⟩
end Go.Proofs.Ytcmggfpcbijcjaa
end
section
/-
  Contracts: move.Pair, straightedgeref04.Pair.
-/
set_option linter.unusedSimpArgs false
set_option linter.unusedVariables false
open Go Go.RowKit Sedge
namespace Go.Proofs.Ytcmggfpcbijcjaa
theorem pairE_1 {x y : VecM} {one : Bool} (h : x.right = false ∨ y.right = false) : pairE x y one = 1 := by
  unfold pairE; rw [if_neg (by rintro ⟨a, b⟩; rcases h with h | h <;> simp_all)]
theorem pairE_3 {x y : VecM} {one : Bool} (h1 : x.right = true) (h2 : y.right = true) (h : x.n ≠ y.n) : pairE x y one = 3 := by
  unfold pairE; rw [if_pos ⟨h1, h2⟩, if_neg h]
theorem pairE_2 {x y : VecM} {one : Bool} (h1 : x.right = true) (h2 : y.right = true) (h : x.n = y.n) : pairE x y one = if one = true ∧ meetsB x y = true then 2 else 0 := by
  unfold pairE; rw [if_pos ⟨h1, h2⟩, if_pos h]
theorem pairE_b {x y : VecM} {one : Bool} (h1 : x.right = true) (h2 : y.right = true) (h : x.n = y.n) (hb : (one && meetsB x y) = true) : pairE x y one = 2 := by
  rw [pairE_2 h1 h2 h, if_pos (by simpa using hb)]
theorem pairE_0 {x y : VecM} {one : Bool} (h1 : x.right = true) (h2 : y.right = true) (h : x.n = y.n) (hb : (one && meetsB x y) = false) : pairE x y one = 0 := by
  rw [pairE_2 h1 h2 h, if_neg (by rintro ⟨a, b⟩; rw [a, b] at hb; cases hb)]
set_option maxRecDepth 100000 in
set_option maxHeartbeats 1000000 in
/-- move.Pair. -/
theorem pair_any (x y : VecM) (a b ca cb : Nat) (w : World) (hA : FS w (.slice (some ⟨a, 0, none⟩) x.ws.length ca) x.ws) (hB : FS w (.slice (some ⟨b, 0, none⟩) y.ws.length cb) y.ws) (hPa : Plain w a) (hPb : Plain w b) (hwx : x.wf) (hwy : y.wf) (hlx : x.ws.length ≤ 1000000) (hly : y.ws.length ≤ 1000000) :
   Calls Try.prog 63 #[.agg #[.slice (some ⟨a, 0, none⟩) x.ws.length ca, .int .i64 x.off, .int .i64 x.n, .int .i64 x.inc], .agg #[.slice (some ⟨b, 0, none⟩) y.ws.length cb, .int .i64 y.off, .int .i64 y.n, .int .i64 y.inc]] w
     (fun e w' => e = .returned (.int .i64 (pairE x y (decide (a = b)))) ∧ ∃ o n, w' = ext w o n) := by
  have Hwx := hid hwx
  have Hwy := hid hwy
  clear hwx hwy
  cases hx : x.right
  · have q := hid (pairE_1 (x := x) (y := y) (one := decide (a = b)) (.inl hx))
    go_enter Try.func63, Try.ntmps63
    refine seq_stop ?_
    go_wp2
    refine stop_go (fun W hW => ?_)
    have s1 : w.heap.size < W.heap.size := by rw [hW]; simp only [World.size_alloc]; omega
    have b1 : ∀ i, W.cell? ⟨w.heap.size, i, none⟩ = (#[.slice (some ⟨a, 0, none⟩) x.ws.length ca, .int .i64 x.off, .int .i64 x.n, .int .i64 x.inc] : Array Value)[i]? := by intro i; rw [hW]; go_simp
    have s2 : w.heap.size + 1 < W.heap.size := by rw [hW]; simp only [World.size_alloc]; omega
    have b2 : ∀ i, W.cell? ⟨w.heap.size + 1, i, none⟩ = (#[.slice (some ⟨b, 0, none⟩) y.ws.length cb, .int .i64 y.off, .int .i64 y.n, .int .i64 y.inc] : Array Value)[i]? := by intro i; rw [hW]; go_simp
    have g0 : Grew w W := by rw [hW]; exact ((Grew.refl _).alloc _).alloc _
    clear hW
    have hAW := hA.grew g0
    go_wp2_with (first | (go_at_call 135; ((with_reducible refine (right_any x _ _ ?_ Hwx.out).mono ?_); (focus (first | (with_reducible assumption) | (with_reducible refine FS.ext ?_ _ _; with_reducible assumption) | (with_reducible refine IS.ext ?_ _ _; with_reducible assumption) | (refine hDu _ ?_; with_reducible assumption) | (refine hOu _ ?_; with_reducible assumption) | (refine hDa _ ?_; with_reducible assumption) | (refine hDb _ ?_; with_reducible assumption) | (refine hDc _ ?_; with_reducible assumption) | (refine hDd _ ?_; with_reducible assumption) | (refine FW.fs ?_ (by omega) _; with_reducible assumption) | (refine WS.fs ?_; with_reducible assumption) | (refine FW.fs ?_ (by omega) _; assumption) | omega | assumption)); rintro e w1 ⟨rfl, o1, n1, rfl⟩)))
    go_ret
    exact ⟨ret_int q.out.symm, by (show Grew _ _; repeat (first | (with_reducible exact Grew.refl _) | (with_reducible assumption) | (with_reducible exact Grew.same_o) | (with_reducible exact Grew.app_o) | (with_reducible refine Grew.ext ?_ _ _) | (with_reducible refine Grew.alloc ?_ _) | ((with_reducible refine Grew.setCell ?_ ?_ _); rotate_left; (focus (dsimp only; first | omega | (simp only [size_ext, World.size_alloc, Array.size_append]; omega)))) | (with_reducible refine Grew.drewN ?_ _) | (with_reducible refine Grew.drew ?_)))⟩
  · cases hy : y.right
    · have q := hid (pairE_1 (x := x) (y := y) (one := decide (a = b)) (.inr hy))
      go_enter Try.func63, Try.ntmps63
      refine seq_stop ?_
      go_wp2
      refine stop_go (fun W hW => ?_)
      have s1 : w.heap.size < W.heap.size := by rw [hW]; simp only [World.size_alloc]; omega
      have b1 : ∀ i, W.cell? ⟨w.heap.size, i, none⟩ = (#[.slice (some ⟨a, 0, none⟩) x.ws.length ca, .int .i64 x.off, .int .i64 x.n, .int .i64 x.inc] : Array Value)[i]? := by intro i; rw [hW]; go_simp
      have s2 : w.heap.size + 1 < W.heap.size := by rw [hW]; simp only [World.size_alloc]; omega
      have b2 : ∀ i, W.cell? ⟨w.heap.size + 1, i, none⟩ = (#[.slice (some ⟨b, 0, none⟩) y.ws.length cb, .int .i64 y.off, .int .i64 y.n, .int .i64 y.inc] : Array Value)[i]? := by intro i; rw [hW]; go_simp
      have g0 : Grew w W := by rw [hW]; exact ((Grew.refl _).alloc _).alloc _
      clear hW
      have hAW := hA.grew g0
      have hBW := hB.grew g0
      go_wp2_with (first | (go_at_call 135; ((with_reducible refine (right_any x _ _ ?_ Hwx.out).mono ?_); (focus (first | (with_reducible assumption) | (with_reducible refine FS.ext ?_ _ _; with_reducible assumption) | (with_reducible refine IS.ext ?_ _ _; with_reducible assumption) | (refine hDu _ ?_; with_reducible assumption) | (refine hOu _ ?_; with_reducible assumption) | (refine hDa _ ?_; with_reducible assumption) | (refine hDb _ ?_; with_reducible assumption) | (refine hDc _ ?_; with_reducible assumption) | (refine hDd _ ?_; with_reducible assumption) | (refine FW.fs ?_ (by omega) _; with_reducible assumption) | (refine WS.fs ?_; with_reducible assumption) | (refine FW.fs ?_ (by omega) _; assumption) | omega | assumption)); rintro e w1 ⟨rfl, o1, n1, rfl⟩)) | (go_at_call 135; ((with_reducible refine (right_any y _ _ ?_ Hwy.out).mono ?_); (focus (first | (with_reducible assumption) | (with_reducible refine FS.ext ?_ _ _; with_reducible assumption) | (with_reducible refine IS.ext ?_ _ _; with_reducible assumption) | (refine hDu _ ?_; with_reducible assumption) | (refine hOu _ ?_; with_reducible assumption) | (refine hDa _ ?_; with_reducible assumption) | (refine hDb _ ?_; with_reducible assumption) | (refine hDc _ ?_; with_reducible assumption) | (refine hDd _ ?_; with_reducible assumption) | (refine FW.fs ?_ (by omega) _; with_reducible assumption) | (refine WS.fs ?_; with_reducible assumption) | (refine FW.fs ?_ (by omega) _; assumption) | omega | assumption)); rintro e w1 ⟨rfl, o1, n1, rfl⟩)))
      go_ret
      exact ⟨ret_int q.out.symm, by (show Grew _ _; repeat (first | (with_reducible exact Grew.refl _) | (with_reducible assumption) | (with_reducible exact Grew.same_o) | (with_reducible exact Grew.app_o) | (with_reducible refine Grew.ext ?_ _ _) | (with_reducible refine Grew.alloc ?_ _) | ((with_reducible refine Grew.setCell ?_ ?_ _); rotate_left; (focus (dsimp only; first | omega | (simp only [size_ext, World.size_alloc, Array.size_append]; omega)))) | (with_reducible refine Grew.drewN ?_ _) | (with_reducible refine Grew.drew ?_)))⟩
    · by_cases hn : x.n = y.n
      · have d1 : decide (x.n ≠ y.n) = false := by simpa using hn
        have d2 : (x.n != y.n) = false := by simpa using hn
        have Hn := hid hn
        have hmeet : ∀ w', Plain w' a → Plain w' b → FS w' (.slice (some ⟨a, 0, none⟩) x.ws.length ca) x.ws → FS w' (.slice (some ⟨b, 0, none⟩) y.ws.length cb) y.ws → Calls Try.prog 142 #[.agg #[.slice (some ⟨a, 0, none⟩) x.ws.length ca, .int .i64 x.off, .int .i64 x.n, .int .i64 x.inc], .agg #[.slice (some ⟨b, 0, none⟩) y.ws.length cb, .int .i64 y.off, .int .i64 y.n, .int .i64 y.inc]] w'
            (fun e w2 => e = .returned (.bool (decide (a = b) && meetsB x y)) ∧ ∃ o n, w2 = ext w' o n) := fun w' p1 p2 h1 h2 => by
          have := meet_any x y a b ca cb w' h1 h2 p1 p2 hx hy Hwx.out Hwy.out Hn.out.symm hlx hly
          rw [Hn.out] at this ⊢; exact this
        cases hm : (decide (a = b) && meetsB x y)
        · have q := hid (pairE_0 hx hy hn hm)
          rw [hm] at hmeet
          clear hn hm
          go_enter Try.func63, Try.ntmps63
          refine seq_stop ?_
          go_wp2
          refine stop_go (fun W hW => ?_)
          have s1 : w.heap.size < W.heap.size := by rw [hW]; simp only [World.size_alloc]; omega
          have b1 : ∀ i, W.cell? ⟨w.heap.size, i, none⟩ = (#[.slice (some ⟨a, 0, none⟩) x.ws.length ca, .int .i64 x.off, .int .i64 x.n, .int .i64 x.inc] : Array Value)[i]? := by intro i; rw [hW]; go_simp
          have s2 : w.heap.size + 1 < W.heap.size := by rw [hW]; simp only [World.size_alloc]; omega
          have b2 : ∀ i, W.cell? ⟨w.heap.size + 1, i, none⟩ = (#[.slice (some ⟨b, 0, none⟩) y.ws.length cb, .int .i64 y.off, .int .i64 y.n, .int .i64 y.inc] : Array Value)[i]? := by intro i; rw [hW]; go_simp
          have g0 : Grew w W := by rw [hW]; exact ((Grew.refl _).alloc _).alloc _
          clear hW
          have hAW := hA.grew g0
          have hBW := hB.grew g0
          go_wp2_with (first | (go_at_call 135; ((with_reducible refine (right_any x _ _ ?_ Hwx.out).mono ?_); (focus (first | (with_reducible assumption) | (with_reducible refine FS.ext ?_ _ _; with_reducible assumption) | (with_reducible refine IS.ext ?_ _ _; with_reducible assumption) | (refine hDu _ ?_; with_reducible assumption) | (refine hOu _ ?_; with_reducible assumption) | (refine hDa _ ?_; with_reducible assumption) | (refine hDb _ ?_; with_reducible assumption) | (refine hDc _ ?_; with_reducible assumption) | (refine hDd _ ?_; with_reducible assumption) | (refine FW.fs ?_ (by omega) _; with_reducible assumption) | (refine WS.fs ?_; with_reducible assumption) | (refine FW.fs ?_ (by omega) _; assumption) | omega | assumption)); rintro e w1 ⟨rfl, o1, n1, rfl⟩)) | (go_at_call 135; ((with_reducible refine (right_any y _ _ ?_ Hwy.out).mono ?_); (focus (first | (with_reducible assumption) | (with_reducible refine FS.ext ?_ _ _; with_reducible assumption) | (with_reducible refine IS.ext ?_ _ _; with_reducible assumption) | (refine hDu _ ?_; with_reducible assumption) | (refine hOu _ ?_; with_reducible assumption) | (refine hDa _ ?_; with_reducible assumption) | (refine hDb _ ?_; with_reducible assumption) | (refine hDc _ ?_; with_reducible assumption) | (refine hDd _ ?_; with_reducible assumption) | (refine FW.fs ?_ (by omega) _; with_reducible assumption) | (refine WS.fs ?_; with_reducible assumption) | (refine FW.fs ?_ (by omega) _; assumption) | omega | assumption)); rintro e w1 ⟨rfl, o1, n1, rfl⟩)) | (go_at_call 142; ((with_reducible refine (hmeet _ (hPa.grew (by (show Grew _ _; repeat (first | (with_reducible exact Grew.refl _) | (with_reducible assumption) | (with_reducible exact Grew.same_o) | (with_reducible exact Grew.app_o) | (with_reducible refine Grew.ext ?_ _ _) | (with_reducible refine Grew.alloc ?_ _) | ((with_reducible refine Grew.setCell ?_ ?_ _); rotate_left; (focus (dsimp only; first | omega | (simp only [size_ext, World.size_alloc, Array.size_append]; omega)))) | (with_reducible refine Grew.drewN ?_ _) | (with_reducible refine Grew.drew ?_))))) (hPb.grew (by (show Grew _ _; repeat (first | (with_reducible exact Grew.refl _) | (with_reducible assumption) | (with_reducible exact Grew.same_o) | (with_reducible exact Grew.app_o) | (with_reducible refine Grew.ext ?_ _ _) | (with_reducible refine Grew.alloc ?_ _) | ((with_reducible refine Grew.setCell ?_ ?_ _); rotate_left; (focus (dsimp only; first | omega | (simp only [size_ext, World.size_alloc, Array.size_append]; omega)))) | (with_reducible refine Grew.drewN ?_ _) | (with_reducible refine Grew.drew ?_))))) ?_ ?_).mono ?_); (focus (first | (with_reducible assumption) | (with_reducible refine FS.ext ?_ _ _; with_reducible assumption) | (with_reducible refine IS.ext ?_ _ _; with_reducible assumption) | (refine hDu _ ?_; with_reducible assumption) | (refine hOu _ ?_; with_reducible assumption) | (refine hDa _ ?_; with_reducible assumption) | (refine hDb _ ?_; with_reducible assumption) | (refine hDc _ ?_; with_reducible assumption) | (refine hDd _ ?_; with_reducible assumption) | (refine FW.fs ?_ (by omega) _; with_reducible assumption) | (refine WS.fs ?_; with_reducible assumption) | (refine FW.fs ?_ (by omega) _; assumption) | omega | assumption)); (focus (first | (with_reducible assumption) | (with_reducible refine FS.ext ?_ _ _; with_reducible assumption) | (with_reducible refine IS.ext ?_ _ _; with_reducible assumption) | (refine hDu _ ?_; with_reducible assumption) | (refine hOu _ ?_; with_reducible assumption) | (refine hDa _ ?_; with_reducible assumption) | (refine hDb _ ?_; with_reducible assumption) | (refine hDc _ ?_; with_reducible assumption) | (refine hDd _ ?_; with_reducible assumption) | (refine FW.fs ?_ (by omega) _; with_reducible assumption) | (refine WS.fs ?_; with_reducible assumption) | (refine FW.fs ?_ (by omega) _; assumption) | omega | assumption)); rintro e w1 ⟨rfl, o1, n1, rfl⟩)))
          go_ret
          exact ⟨ret_int q.out.symm, by (show Grew _ _; repeat (first | (with_reducible exact Grew.refl _) | (with_reducible assumption) | (with_reducible exact Grew.same_o) | (with_reducible exact Grew.app_o) | (with_reducible refine Grew.ext ?_ _ _) | (with_reducible refine Grew.alloc ?_ _) | ((with_reducible refine Grew.setCell ?_ ?_ _); rotate_left; (focus (dsimp only; first | omega | (simp only [size_ext, World.size_alloc, Array.size_append]; omega)))) | (with_reducible refine Grew.drewN ?_ _) | (with_reducible refine Grew.drew ?_)))⟩
        · have q := hid (pairE_b hx hy hn hm)
          rw [hm] at hmeet
          clear hn hm
          go_enter Try.func63, Try.ntmps63
          refine seq_stop ?_
          go_wp2
          refine stop_go (fun W hW => ?_)
          have s1 : w.heap.size < W.heap.size := by rw [hW]; simp only [World.size_alloc]; omega
          have b1 : ∀ i, W.cell? ⟨w.heap.size, i, none⟩ = (#[.slice (some ⟨a, 0, none⟩) x.ws.length ca, .int .i64 x.off, .int .i64 x.n, .int .i64 x.inc] : Array Value)[i]? := by intro i; rw [hW]; go_simp
          have s2 : w.heap.size + 1 < W.heap.size := by rw [hW]; simp only [World.size_alloc]; omega
          have b2 : ∀ i, W.cell? ⟨w.heap.size + 1, i, none⟩ = (#[.slice (some ⟨b, 0, none⟩) y.ws.length cb, .int .i64 y.off, .int .i64 y.n, .int .i64 y.inc] : Array Value)[i]? := by intro i; rw [hW]; go_simp
          have g0 : Grew w W := by rw [hW]; exact ((Grew.refl _).alloc _).alloc _
          clear hW
          have hAW := hA.grew g0
          have hBW := hB.grew g0
          go_wp2_with (first | (go_at_call 135; ((with_reducible refine (right_any x _ _ ?_ Hwx.out).mono ?_); (focus (first | (with_reducible assumption) | (with_reducible refine FS.ext ?_ _ _; with_reducible assumption) | (with_reducible refine IS.ext ?_ _ _; with_reducible assumption) | (refine hDu _ ?_; with_reducible assumption) | (refine hOu _ ?_; with_reducible assumption) | (refine hDa _ ?_; with_reducible assumption) | (refine hDb _ ?_; with_reducible assumption) | (refine hDc _ ?_; with_reducible assumption) | (refine hDd _ ?_; with_reducible assumption) | (refine FW.fs ?_ (by omega) _; with_reducible assumption) | (refine WS.fs ?_; with_reducible assumption) | (refine FW.fs ?_ (by omega) _; assumption) | omega | assumption)); rintro e w1 ⟨rfl, o1, n1, rfl⟩)) | (go_at_call 135; ((with_reducible refine (right_any y _ _ ?_ Hwy.out).mono ?_); (focus (first | (with_reducible assumption) | (with_reducible refine FS.ext ?_ _ _; with_reducible assumption) | (with_reducible refine IS.ext ?_ _ _; with_reducible assumption) | (refine hDu _ ?_; with_reducible assumption) | (refine hOu _ ?_; with_reducible assumption) | (refine hDa _ ?_; with_reducible assumption) | (refine hDb _ ?_; with_reducible assumption) | (refine hDc _ ?_; with_reducible assumption) | (refine hDd _ ?_; with_reducible assumption) | (refine FW.fs ?_ (by omega) _; with_reducible assumption) | (refine WS.fs ?_; with_reducible assumption) | (refine FW.fs ?_ (by omega) _; assumption) | omega | assumption)); rintro e w1 ⟨rfl, o1, n1, rfl⟩)) | (go_at_call 142; ((with_reducible refine (hmeet _ (hPa.grew (by (show Grew _ _; repeat (first | (with_reducible exact Grew.refl _) | (with_reducible assumption) | (with_reducible exact Grew.same_o) | (with_reducible exact Grew.app_o) | (with_reducible refine Grew.ext ?_ _ _) | (with_reducible refine Grew.alloc ?_ _) | ((with_reducible refine Grew.setCell ?_ ?_ _); rotate_left; (focus (dsimp only; first | omega | (simp only [size_ext, World.size_alloc, Array.size_append]; omega)))) | (with_reducible refine Grew.drewN ?_ _) | (with_reducible refine Grew.drew ?_))))) (hPb.grew (by (show Grew _ _; repeat (first | (with_reducible exact Grew.refl _) | (with_reducible assumption) | (with_reducible exact Grew.same_o) | (with_reducible exact Grew.app_o) | (with_reducible refine Grew.ext ?_ _ _) | (with_reducible refine Grew.alloc ?_ _) | ((with_reducible refine Grew.setCell ?_ ?_ _); rotate_left; (focus (dsimp only; first | omega | (simp only [size_ext, World.size_alloc, Array.size_append]; omega)))) | (with_reducible refine Grew.drewN ?_ _) | (with_reducible refine Grew.drew ?_))))) ?_ ?_).mono ?_); (focus (first | (with_reducible assumption) | (with_reducible refine FS.ext ?_ _ _; with_reducible assumption) | (with_reducible refine IS.ext ?_ _ _; with_reducible assumption) | (refine hDu _ ?_; with_reducible assumption) | (refine hOu _ ?_; with_reducible assumption) | (refine hDa _ ?_; with_reducible assumption) | (refine hDb _ ?_; with_reducible assumption) | (refine hDc _ ?_; with_reducible assumption) | (refine hDd _ ?_; with_reducible assumption) | (refine FW.fs ?_ (by omega) _; with_reducible assumption) | (refine WS.fs ?_; with_reducible assumption) | (refine FW.fs ?_ (by omega) _; assumption) | omega | assumption)); (focus (first | (with_reducible assumption) | (with_reducible refine FS.ext ?_ _ _; with_reducible assumption) | (with_reducible refine IS.ext ?_ _ _; with_reducible assumption) | (refine hDu _ ?_; with_reducible assumption) | (refine hOu _ ?_; with_reducible assumption) | (refine hDa _ ?_; with_reducible assumption) | (refine hDb _ ?_; with_reducible assumption) | (refine hDc _ ?_; with_reducible assumption) | (refine hDd _ ?_; with_reducible assumption) | (refine FW.fs ?_ (by omega) _; with_reducible assumption) | (refine WS.fs ?_; with_reducible assumption) | (refine FW.fs ?_ (by omega) _; assumption) | omega | assumption)); rintro e w1 ⟨rfl, o1, n1, rfl⟩)))
          go_ret
          exact ⟨ret_int q.out.symm, by (show Grew _ _; repeat (first | (with_reducible exact Grew.refl _) | (with_reducible assumption) | (with_reducible exact Grew.same_o) | (with_reducible exact Grew.app_o) | (with_reducible refine Grew.ext ?_ _ _) | (with_reducible refine Grew.alloc ?_ _) | ((with_reducible refine Grew.setCell ?_ ?_ _); rotate_left; (focus (dsimp only; first | omega | (simp only [size_ext, World.size_alloc, Array.size_append]; omega)))) | (with_reducible refine Grew.drewN ?_ _) | (with_reducible refine Grew.drew ?_)))⟩
      · have d1 : decide (x.n ≠ y.n) = true := by simpa using hn
        have d2 : (x.n != y.n) = true := by simpa using hn
        have q := hid (pairE_3 (one := decide (a = b)) hx hy hn)
        go_enter Try.func63, Try.ntmps63
        refine seq_stop ?_
        go_wp2
        refine stop_go (fun W hW => ?_)
        have s1 : w.heap.size < W.heap.size := by rw [hW]; simp only [World.size_alloc]; omega
        have b1 : ∀ i, W.cell? ⟨w.heap.size, i, none⟩ = (#[.slice (some ⟨a, 0, none⟩) x.ws.length ca, .int .i64 x.off, .int .i64 x.n, .int .i64 x.inc] : Array Value)[i]? := by intro i; rw [hW]; go_simp
        have s2 : w.heap.size + 1 < W.heap.size := by rw [hW]; simp only [World.size_alloc]; omega
        have b2 : ∀ i, W.cell? ⟨w.heap.size + 1, i, none⟩ = (#[.slice (some ⟨b, 0, none⟩) y.ws.length cb, .int .i64 y.off, .int .i64 y.n, .int .i64 y.inc] : Array Value)[i]? := by intro i; rw [hW]; go_simp
        have g0 : Grew w W := by rw [hW]; exact ((Grew.refl _).alloc _).alloc _
        clear hW
        have hAW := hA.grew g0
        have hBW := hB.grew g0
        go_wp2_with (first | (go_at_call 135; ((with_reducible refine (right_any x _ _ ?_ Hwx.out).mono ?_); (focus (first | (with_reducible assumption) | (with_reducible refine FS.ext ?_ _ _; with_reducible assumption) | (with_reducible refine IS.ext ?_ _ _; with_reducible assumption) | (refine hDu _ ?_; with_reducible assumption) | (refine hOu _ ?_; with_reducible assumption) | (refine hDa _ ?_; with_reducible assumption) | (refine hDb _ ?_; with_reducible assumption) | (refine hDc _ ?_; with_reducible assumption) | (refine hDd _ ?_; with_reducible assumption) | (refine FW.fs ?_ (by omega) _; with_reducible assumption) | (refine WS.fs ?_; with_reducible assumption) | (refine FW.fs ?_ (by omega) _; assumption) | omega | assumption)); rintro e w1 ⟨rfl, o1, n1, rfl⟩)) | (go_at_call 135; ((with_reducible refine (right_any y _ _ ?_ Hwy.out).mono ?_); (focus (first | (with_reducible assumption) | (with_reducible refine FS.ext ?_ _ _; with_reducible assumption) | (with_reducible refine IS.ext ?_ _ _; with_reducible assumption) | (refine hDu _ ?_; with_reducible assumption) | (refine hOu _ ?_; with_reducible assumption) | (refine hDa _ ?_; with_reducible assumption) | (refine hDb _ ?_; with_reducible assumption) | (refine hDc _ ?_; with_reducible assumption) | (refine hDd _ ?_; with_reducible assumption) | (refine FW.fs ?_ (by omega) _; with_reducible assumption) | (refine WS.fs ?_; with_reducible assumption) | (refine FW.fs ?_ (by omega) _; assumption) | omega | assumption)); rintro e w1 ⟨rfl, o1, n1, rfl⟩)))
        go_ret
        exact ⟨ret_int q.out.symm, by (show Grew _ _; repeat (first | (with_reducible exact Grew.refl _) | (with_reducible assumption) | (with_reducible exact Grew.same_o) | (with_reducible exact Grew.app_o) | (with_reducible refine Grew.ext ?_ _ _) | (with_reducible refine Grew.alloc ?_ _) | ((with_reducible refine Grew.setCell ?_ ?_ _); rotate_left; (focus (dsimp only; first | omega | (simp only [size_ext, World.size_alloc, Array.size_append]; omega)))) | (with_reducible refine Grew.drewN ?_ _) | (with_reducible refine Grew.drew ?_)))⟩
set_option maxRecDepth 100000 in
set_option maxHeartbeats 1000000 in
/-- straightedgeref04.Pair. -/
theorem rpair_any (x y : VecM) (D E : Value) (one : Bool) (w : World) (hA : FS w D x.ws) (hB : FS w E y.ws) (hwx : x.wf) (hwy : y.wf) (hlx : x.ws.length ≤ 1000000) (hly : y.ws.length ≤ 1000000) :
   Calls Try.prog 62 #[.agg #[D, .int .i64 x.off, .int .i64 x.n, .int .i64 x.inc], .agg #[E, .int .i64 y.off, .int .i64 y.n, .int .i64 y.inc], .bool one] w
     (fun e w' => e = .returned (.int .i64 (pairE x y one)) ∧ ∃ o n, w' = ext w o n) := by
  have Hwx := hid hwx
  have Hwy := hid hwy
  clear hwx hwy
  cases hx : x.right
  · have q := hid (pairE_1 (x := x) (y := y) (one := one) (.inl hx))
    go_enter Try.func62, Try.ntmps62
    refine seq_stop ?_
    go_wp2
    refine stop_go (fun W hW => ?_)
    have s1 : w.heap.size < W.heap.size := by rw [hW]; simp only [World.size_alloc]; omega
    have b1 : ∀ i, W.cell? ⟨w.heap.size, i, none⟩ = (#[D, .int .i64 x.off, .int .i64 x.n, .int .i64 x.inc] : Array Value)[i]? := by intro i; rw [hW]; go_simp
    have s2 : w.heap.size + 1 < W.heap.size := by rw [hW]; simp only [World.size_alloc]; omega
    have b2 : ∀ i, W.cell? ⟨w.heap.size + 1, i, none⟩ = (#[E, .int .i64 y.off, .int .i64 y.n, .int .i64 y.inc] : Array Value)[i]? := by intro i; rw [hW]; go_simp
    have g0 : Grew w W := by rw [hW]; exact ((Grew.refl _).alloc _).alloc _
    clear hW
    have hAW := hA.grew g0
    go_wp2_with (first | (go_at_call 56; ((with_reducible refine (rright_any x _ _ ?_ Hwx.out).mono ?_); (focus (first | (with_reducible assumption) | (with_reducible refine FS.ext ?_ _ _; with_reducible assumption) | (with_reducible refine IS.ext ?_ _ _; with_reducible assumption) | (refine hDu _ ?_; with_reducible assumption) | (refine hOu _ ?_; with_reducible assumption) | (refine hDa _ ?_; with_reducible assumption) | (refine hDb _ ?_; with_reducible assumption) | (refine hDc _ ?_; with_reducible assumption) | (refine hDd _ ?_; with_reducible assumption) | (refine FW.fs ?_ (by omega) _; with_reducible assumption) | (refine WS.fs ?_; with_reducible assumption) | (refine FW.fs ?_ (by omega) _; assumption) | omega | assumption)); rintro e w1 ⟨rfl, o1, n1, rfl⟩)))
    go_ret
    exact ⟨ret_int q.out.symm, by (show Grew _ _; repeat (first | (with_reducible exact Grew.refl _) | (with_reducible assumption) | (with_reducible exact Grew.same_o) | (with_reducible exact Grew.app_o) | (with_reducible refine Grew.ext ?_ _ _) | (with_reducible refine Grew.alloc ?_ _) | ((with_reducible refine Grew.setCell ?_ ?_ _); rotate_left; (focus (dsimp only; first | omega | (simp only [size_ext, World.size_alloc, Array.size_append]; omega)))) | (with_reducible refine Grew.drewN ?_ _) | (with_reducible refine Grew.drew ?_)))⟩
  · cases hy : y.right
    · have q := hid (pairE_1 (x := x) (y := y) (one := one) (.inr hy))
      go_enter Try.func62, Try.ntmps62
      refine seq_stop ?_
      go_wp2
      refine stop_go (fun W hW => ?_)
      have s1 : w.heap.size < W.heap.size := by rw [hW]; simp only [World.size_alloc]; omega
      have b1 : ∀ i, W.cell? ⟨w.heap.size, i, none⟩ = (#[D, .int .i64 x.off, .int .i64 x.n, .int .i64 x.inc] : Array Value)[i]? := by intro i; rw [hW]; go_simp
      have s2 : w.heap.size + 1 < W.heap.size := by rw [hW]; simp only [World.size_alloc]; omega
      have b2 : ∀ i, W.cell? ⟨w.heap.size + 1, i, none⟩ = (#[E, .int .i64 y.off, .int .i64 y.n, .int .i64 y.inc] : Array Value)[i]? := by intro i; rw [hW]; go_simp
      have g0 : Grew w W := by rw [hW]; exact ((Grew.refl _).alloc _).alloc _
      clear hW
      have hAW := hA.grew g0
      have hBW := hB.grew g0
      go_wp2_with (first | (go_at_call 56; ((with_reducible refine (rright_any x _ _ ?_ Hwx.out).mono ?_); (focus (first | (with_reducible assumption) | (with_reducible refine FS.ext ?_ _ _; with_reducible assumption) | (with_reducible refine IS.ext ?_ _ _; with_reducible assumption) | (refine hDu _ ?_; with_reducible assumption) | (refine hOu _ ?_; with_reducible assumption) | (refine hDa _ ?_; with_reducible assumption) | (refine hDb _ ?_; with_reducible assumption) | (refine hDc _ ?_; with_reducible assumption) | (refine hDd _ ?_; with_reducible assumption) | (refine FW.fs ?_ (by omega) _; with_reducible assumption) | (refine WS.fs ?_; with_reducible assumption) | (refine FW.fs ?_ (by omega) _; assumption) | omega | assumption)); rintro e w1 ⟨rfl, o1, n1, rfl⟩)) | (go_at_call 56; ((with_reducible refine (rright_any y _ _ ?_ Hwy.out).mono ?_); (focus (first | (with_reducible assumption) | (with_reducible refine FS.ext ?_ _ _; with_reducible assumption) | (with_reducible refine IS.ext ?_ _ _; with_reducible assumption) | (refine hDu _ ?_; with_reducible assumption) | (refine hOu _ ?_; with_reducible assumption) | (refine hDa _ ?_; with_reducible assumption) | (refine hDb _ ?_; with_reducible assumption) | (refine hDc _ ?_; with_reducible assumption) | (refine hDd _ ?_; with_reducible assumption) | (refine FW.fs ?_ (by omega) _; with_reducible assumption) | (refine WS.fs ?_; with_reducible assumption) | (refine FW.fs ?_ (by omega) _; assumption) | omega | assumption)); rintro e w1 ⟨rfl, o1, n1, rfl⟩)))
      go_ret
      exact ⟨ret_int q.out.symm, by (show Grew _ _; repeat (first | (with_reducible exact Grew.refl _) | (with_reducible assumption) | (with_reducible exact Grew.same_o) | (with_reducible exact Grew.app_o) | (with_reducible refine Grew.ext ?_ _ _) | (with_reducible refine Grew.alloc ?_ _) | ((with_reducible refine Grew.setCell ?_ ?_ _); rotate_left; (focus (dsimp only; first | omega | (simp only [size_ext, World.size_alloc, Array.size_append]; omega)))) | (with_reducible refine Grew.drewN ?_ _) | (with_reducible refine Grew.drew ?_)))⟩
    · by_cases hn : x.n = y.n
      · have d1 : (x.n != y.n) = false := by simpa using hn
        have Hx := hid hx
        have Hy := hid hy
        have hnl := VecM.right_nle hx hlx
        have hnl2 := VecM.right_nle hy hly
        have hnx := VecM.right_n hx
        have hny := VecM.right_n hy
        have Hn := hid hn
        cases one
        · have q := hid (pairE_0 (one := false) hx hy hn rfl)
          clear hn
          go_enter Try.func62, Try.ntmps62
          refine seq_stop ?_
          go_wp2
          refine stop_go (fun W hW => ?_)
          have s1 : w.heap.size < W.heap.size := by rw [hW]; simp only [World.size_alloc]; omega
          have b1 : ∀ i, W.cell? ⟨w.heap.size, i, none⟩ = (#[D, .int .i64 x.off, .int .i64 x.n, .int .i64 x.inc] : Array Value)[i]? := by intro i; rw [hW]; go_simp
          have s2 : w.heap.size + 1 < W.heap.size := by rw [hW]; simp only [World.size_alloc]; omega
          have b2 : ∀ i, W.cell? ⟨w.heap.size + 1, i, none⟩ = (#[E, .int .i64 y.off, .int .i64 y.n, .int .i64 y.inc] : Array Value)[i]? := by intro i; rw [hW]; go_simp
          have g0 : Grew w W := by rw [hW]; exact ((Grew.refl _).alloc _).alloc _
          clear hW
          have hAW := hA.grew g0
          have hBW := hB.grew g0
          go_wp2_with (first | (go_at_call 56; ((with_reducible refine (rright_any x _ _ ?_ Hwx.out).mono ?_); (focus (first | (with_reducible assumption) | (with_reducible refine FS.ext ?_ _ _; with_reducible assumption) | (with_reducible refine IS.ext ?_ _ _; with_reducible assumption) | (refine hDu _ ?_; with_reducible assumption) | (refine hOu _ ?_; with_reducible assumption) | (refine hDa _ ?_; with_reducible assumption) | (refine hDb _ ?_; with_reducible assumption) | (refine hDc _ ?_; with_reducible assumption) | (refine hDd _ ?_; with_reducible assumption) | (refine FW.fs ?_ (by omega) _; with_reducible assumption) | (refine WS.fs ?_; with_reducible assumption) | (refine FW.fs ?_ (by omega) _; assumption) | omega | assumption)); rintro e w1 ⟨rfl, o1, n1, rfl⟩)) | (go_at_call 56; ((with_reducible refine (rright_any y _ _ ?_ Hwy.out).mono ?_); (focus (first | (with_reducible assumption) | (with_reducible refine FS.ext ?_ _ _; with_reducible assumption) | (with_reducible refine IS.ext ?_ _ _; with_reducible assumption) | (refine hDu _ ?_; with_reducible assumption) | (refine hOu _ ?_; with_reducible assumption) | (refine hDa _ ?_; with_reducible assumption) | (refine hDb _ ?_; with_reducible assumption) | (refine hDc _ ?_; with_reducible assumption) | (refine hDd _ ?_; with_reducible assumption) | (refine FW.fs ?_ (by omega) _; with_reducible assumption) | (refine WS.fs ?_; with_reducible assumption) | (refine FW.fs ?_ (by omega) _; assumption) | omega | assumption)); rintro e w1 ⟨rfl, o1, n1, rfl⟩)))
          go_loopw [7] (fun c wr => ∃ (o : Array Obj) (n : Nat), c = .int .i64 0 ∧ wr = ext W o n) (fun c _ => 0)
          case atStart => exact ⟨_, _, rfl, rfl⟩
          case round =>
            obtain ⟨o2, n2, rfl, hwr⟩ := hrel
            subst hwr
            go_wp2
            go_ret
            exact ⟨ret_int q.out.symm, by (show Grew _ _; repeat (first | (with_reducible exact Grew.refl _) | (with_reducible assumption) | (with_reducible exact Grew.same_o) | (with_reducible exact Grew.app_o) | (with_reducible refine Grew.ext ?_ _ _) | (with_reducible refine Grew.alloc ?_ _) | ((with_reducible refine Grew.setCell ?_ ?_ _); rotate_left; (focus (dsimp only; first | omega | (simp only [size_ext, World.size_alloc, Array.size_append]; omega)))) | (with_reducible refine Grew.drewN ?_ _) | (with_reducible refine Grew.drew ?_)))⟩
        · clear hn
          go_enter Try.func62, Try.ntmps62
          refine seq_stop ?_
          go_wp2
          refine stop_go (fun W hW => ?_)
          have s1 : w.heap.size < W.heap.size := by rw [hW]; simp only [World.size_alloc]; omega
          have b1 : ∀ i, W.cell? ⟨w.heap.size, i, none⟩ = (#[D, .int .i64 x.off, .int .i64 x.n, .int .i64 x.inc] : Array Value)[i]? := by intro i; rw [hW]; go_simp
          have s2 : w.heap.size + 1 < W.heap.size := by rw [hW]; simp only [World.size_alloc]; omega
          have b2 : ∀ i, W.cell? ⟨w.heap.size + 1, i, none⟩ = (#[E, .int .i64 y.off, .int .i64 y.n, .int .i64 y.inc] : Array Value)[i]? := by intro i; rw [hW]; go_simp
          have g0 : Grew w W := by rw [hW]; exact ((Grew.refl _).alloc _).alloc _
          clear hW
          have hAW := hA.grew g0
          have hBW := hB.grew g0
          go_wp2_with (first | (go_at_call 56; ((with_reducible refine (rright_any x _ _ ?_ Hwx.out).mono ?_); (focus (first | (with_reducible assumption) | (with_reducible refine FS.ext ?_ _ _; with_reducible assumption) | (with_reducible refine IS.ext ?_ _ _; with_reducible assumption) | (refine hDu _ ?_; with_reducible assumption) | (refine hOu _ ?_; with_reducible assumption) | (refine hDa _ ?_; with_reducible assumption) | (refine hDb _ ?_; with_reducible assumption) | (refine hDc _ ?_; with_reducible assumption) | (refine hDd _ ?_; with_reducible assumption) | (refine FW.fs ?_ (by omega) _; with_reducible assumption) | (refine WS.fs ?_; with_reducible assumption) | (refine FW.fs ?_ (by omega) _; assumption) | omega | assumption)); rintro e w1 ⟨rfl, o1, n1, rfl⟩)) | (go_at_call 56; ((with_reducible refine (rright_any y _ _ ?_ Hwy.out).mono ?_); (focus (first | (with_reducible assumption) | (with_reducible refine FS.ext ?_ _ _; with_reducible assumption) | (with_reducible refine IS.ext ?_ _ _; with_reducible assumption) | (refine hDu _ ?_; with_reducible assumption) | (refine hOu _ ?_; with_reducible assumption) | (refine hDa _ ?_; with_reducible assumption) | (refine hDb _ ?_; with_reducible assumption) | (refine hDc _ ?_; with_reducible assumption) | (refine hDd _ ?_; with_reducible assumption) | (refine FW.fs ?_ (by omega) _; with_reducible assumption) | (refine WS.fs ?_; with_reducible assumption) | (refine FW.fs ?_ (by omega) _; assumption) | omega | assumption)); rintro e w1 ⟨rfl, o1, n1, rfl⟩)))
          go_loopw [7] (fun c wr => ∃ (i : Nat) (o : Array Obj) (n : Nat), (i : Int) ≤ x.n ∧ c = .int .i64 i ∧ wr = ext W o n ∧ meetsTo x y i = false) (fun c _ => x.n.toNat - (intOf c).toNat)
          case atStart => exact ⟨0, _, _, hnx.1, rfl, rfl, rfl⟩
          case round =>
            obtain ⟨i, o2, n2, hi, rfl, hwr, hm⟩ := hrel
            subst hwr
            have Hm := hid hm
            clear hm
            by_cases hlt : (i : Int) < x.n
            · have hp := VecM.right_place Hx.out hlt
              have r1 : IntKind.i64.wrap (i * x.inc) = i * x.inc := IntWalk.i64_in _ (by omega)
              have r2 : IntKind.i64.wrap (x.off + i * x.inc) = x.off + i * x.inc := IntWalk.i64_in _ (by omega)
              have hS := hid (meetsTo_succ x y i)
              go_wp2
              go_loopw [8] (fun c wr => ∃ (k : Nat) (o : Array Obj) (n : Nat), (k : Int) ≤ y.n ∧ c = .int .i64 k ∧ wr = ext W o n ∧ hitTo (x.off + i * x.inc) y k = false) (fun c _ => y.n.toNat - (intOf c).toNat)
              case atStart => exact ⟨0, _, _, hny.1, rfl, rfl, rfl⟩
              case round =>
                obtain ⟨k, o3, n3, hk, rfl, hwr, ht⟩ := hrel
                subst hwr
                have Ht := hid ht
                clear ht
                by_cases hlk : (k : Int) < y.n
                · have hq := VecM.right_place Hy.out hlk
                  have r3 : IntKind.i64.wrap (k * y.inc) = k * y.inc := IntWalk.i64_in _ (by omega)
                  have r4 : IntKind.i64.wrap (y.off + k * y.inc) = y.off + k * y.inc := IntWalk.i64_in _ (by omega)
                  have hT := hid (hitTo_succ (x.off + i * x.inc) y k)
                  by_cases e : x.off + i * x.inc = y.off + k * y.inc
                  · have d2 : (x.off + i * x.inc == y.off + k * y.inc) = true := by simpa using e
                    have hmm : meetsB x y = true := by
                      have h1 : hitTo (x.off + i * x.inc) y (k + 1) = true := by rw [hT.out]; simp [e]
                      have h2 : hitTo (x.off + i * x.inc) y y.n.toNat = true := by
                        unfold hitTo at h1 ⊢
                        rw [List.any_eq_true] at h1 ⊢
                        obtain ⟨t, ht, h3⟩ := h1
                        exact ⟨t, by simp only [List.mem_range] at ht ⊢; omega, h3⟩
                      have h3 : meetsTo x y (i + 1) = true := by rw [hS.out, Hm.out, Bool.false_or]; exact h2
                      exact meetsTo_mono h3 (show i + 1 ≤ x.n.toNat by omega)
                    have q := hid (pairE_b (one := true) Hx.out Hy.out Hn.out (by simpa using hmm))
                    clear hmm e
                    go_wp2
                    go_ret
                    exact ⟨ret_int q.out.symm, by (show Grew _ _; repeat (first | (with_reducible exact Grew.refl _) | (with_reducible assumption) | (with_reducible exact Grew.same_o) | (with_reducible exact Grew.app_o) | (with_reducible refine Grew.ext ?_ _ _) | (with_reducible refine Grew.alloc ?_ _) | ((with_reducible refine Grew.setCell ?_ ?_ _); rotate_left; (focus (dsimp only; first | omega | (simp only [size_ext, World.size_alloc, Array.size_append]; omega)))) | (with_reducible refine Grew.drewN ?_ _) | (with_reducible refine Grew.drew ?_)))⟩
                  · have d2 : (x.off + i * x.inc == y.off + k * y.inc) = false := by simpa using e
                    have h1 : hitTo (x.off + i * x.inc) y (k + 1) = false := by rw [hT.out, Ht.out, Bool.false_or]; simpa using e
                    clear e
                    go_wp2
                    go_roundw
                    case rel => exact ⟨k + 1, _, _, by omega, by (have := Hn.out; go_num), rfl, h1⟩
                    case measure => (have := Hn.out; simp [intOf]; omega)
                · have h1 : meetsTo x y (i + 1) = false := by
                    rw [hS.out, Hm.out, Bool.false_or]
                    have e : y.n.toNat = k := by omega
                    have := Ht.out
                    rw [← e] at this; exact this
                  go_wp2
                  go_roundw
                  case rel => exact ⟨i + 1, _, _, by omega, by go_num, rfl, h1⟩
                  case measure => simp [intOf]; omega
            · have hmm : meetsB x y = false := by unfold meetsB; rw [show x.n.toNat = i by omega]; exact Hm.out
              have q := hid (pairE_0 (one := true) Hx.out Hy.out Hn.out (by simpa using hmm))
              clear hmm
              go_wp2
              go_ret
              exact ⟨ret_int q.out.symm, by (show Grew _ _; repeat (first | (with_reducible exact Grew.refl _) | (with_reducible assumption) | (with_reducible exact Grew.same_o) | (with_reducible exact Grew.app_o) | (with_reducible refine Grew.ext ?_ _ _) | (with_reducible refine Grew.alloc ?_ _) | ((with_reducible refine Grew.setCell ?_ ?_ _); rotate_left; (focus (dsimp only; first | omega | (simp only [size_ext, World.size_alloc, Array.size_append]; omega)))) | (with_reducible refine Grew.drewN ?_ _) | (with_reducible refine Grew.drew ?_)))⟩
      · have d1 : decide (x.n ≠ y.n) = true := by simpa using hn
        have d2 : (x.n != y.n) = true := by simpa using hn
        have q := hid (pairE_3 (one := one) hx hy hn)
        go_enter Try.func62, Try.ntmps62
        refine seq_stop ?_
        go_wp2
        refine stop_go (fun W hW => ?_)
        have s1 : w.heap.size < W.heap.size := by rw [hW]; simp only [World.size_alloc]; omega
        have b1 : ∀ i, W.cell? ⟨w.heap.size, i, none⟩ = (#[D, .int .i64 x.off, .int .i64 x.n, .int .i64 x.inc] : Array Value)[i]? := by intro i; rw [hW]; go_simp
        have s2 : w.heap.size + 1 < W.heap.size := by rw [hW]; simp only [World.size_alloc]; omega
        have b2 : ∀ i, W.cell? ⟨w.heap.size + 1, i, none⟩ = (#[E, .int .i64 y.off, .int .i64 y.n, .int .i64 y.inc] : Array Value)[i]? := by intro i; rw [hW]; go_simp
        have g0 : Grew w W := by rw [hW]; exact ((Grew.refl _).alloc _).alloc _
        clear hW
        have hAW := hA.grew g0
        have hBW := hB.grew g0
        go_wp2_with (first | (go_at_call 56; ((with_reducible refine (rright_any x _ _ ?_ Hwx.out).mono ?_); (focus (first | (with_reducible assumption) | (with_reducible refine FS.ext ?_ _ _; with_reducible assumption) | (with_reducible refine IS.ext ?_ _ _; with_reducible assumption) | (refine hDu _ ?_; with_reducible assumption) | (refine hOu _ ?_; with_reducible assumption) | (refine hDa _ ?_; with_reducible assumption) | (refine hDb _ ?_; with_reducible assumption) | (refine hDc _ ?_; with_reducible assumption) | (refine hDd _ ?_; with_reducible assumption) | (refine FW.fs ?_ (by omega) _; with_reducible assumption) | (refine WS.fs ?_; with_reducible assumption) | (refine FW.fs ?_ (by omega) _; assumption) | omega | assumption)); rintro e w1 ⟨rfl, o1, n1, rfl⟩)) | (go_at_call 56; ((with_reducible refine (rright_any y _ _ ?_ Hwy.out).mono ?_); (focus (first | (with_reducible assumption) | (with_reducible refine FS.ext ?_ _ _; with_reducible assumption) | (with_reducible refine IS.ext ?_ _ _; with_reducible assumption) | (refine hDu _ ?_; with_reducible assumption) | (refine hOu _ ?_; with_reducible assumption) | (refine hDa _ ?_; with_reducible assumption) | (refine hDb _ ?_; with_reducible assumption) | (refine hDc _ ?_; with_reducible assumption) | (refine hDd _ ?_; with_reducible assumption) | (refine FW.fs ?_ (by omega) _; with_reducible assumption) | (refine WS.fs ?_; with_reducible assumption) | (refine FW.fs ?_ (by omega) _; assumption) | omega | assumption)); rintro e w1 ⟨rfl, o1, n1, rfl⟩)))
        go_ret
        exact ⟨ret_int q.out.symm, by (show Grew _ _; repeat (first | (with_reducible exact Grew.refl _) | (with_reducible assumption) | (with_reducible exact Grew.same_o) | (with_reducible exact Grew.app_o) | (with_reducible refine Grew.ext ?_ _ _) | (with_reducible refine Grew.alloc ?_ _) | ((with_reducible refine Grew.setCell ?_ ?_ _); rotate_left; (focus (dsimp only; first | omega | (simp only [size_ext, World.size_alloc, Array.size_append]; omega)))) | (with_reducible refine Grew.drewN ?_ _) | (with_reducible refine Grew.drew ?_)))⟩
end Go.Proofs.Ytcmggfpcbijcjaa
end
