/-
  Texts laid one behind the other (a claim has at most 60 files): Equil1, GrewA, Equil2, ColV, Equil3.
-/
import Derived.Deep.CutBlock
import Derived.Deep.DeepCutAuto
import Derived.Test.YtcmggfpcbijcjaaQEquilLike1
import Derived.Test.YtcmggfpcbijcjaaQEquilLike2
import Derived.Test.YtcmggfpcbijcjaaQEquilLike3
import Derived.Test.YtcmggfpcbijcjaaQEquilLike4
import Derived.Test.YtcmggfpcbijcjaaQEquilLike5
import Derived.Test.YtcmggfpcbijcjaaQEquilLike6
section
/-
  Contracts: equil.list, view.Numbers, move.Finite, equil.greatest.
-/
set_option linter.unusedSimpArgs false
set_option linter.unusedVariables false
open Go Go.RowKit Sedge
namespace Go.Proofs.Ytcmggfpcbijcjaa
set_option maxRecDepth 100000 in
set_option maxHeartbeats 1000000 in
/-- equil.list. -/
theorem elist_any (x : VecM) (D : Value) (w : World) (hD : FS w D x.ws) (hx : x.right = true) (hwf : x.wf) (hl : x.ws.length ≤ 1000000) :
   Calls Try.prog 176 #[.agg #[D, .int .i64 x.off, .int .i64 x.n, .int .i64 x.inc]] w
     (fun e w' => ∃ v, e = .returned v ∧ FS w' v x.list ∧ ∃ o n, w' = ext w o n) := by
  have hn := VecM.right_n hx
  have hn2 := hwf.2.1.2
  have hnl := VecM.right_nle hx hl
  have Hx := hid hx
  have Hn := hid hn
  have Hn2 := hid hn2
  have Hnl := hid hnl
  clear hx hn hwf hn2 hnl
  go_enter Try.func176, Try.ntmps176
  refine seq_stop ?_
  go_wp2
  refine stop_go (fun W hW => ?_)
  have s1 : w.heap.size < W.heap.size := by rw [hW]; simp only [World.size_alloc]; omega
  have b1 : ∀ i, W.cell? ⟨w.heap.size, i, none⟩ = (#[D, .int .i64 x.off, .int .i64 x.n, .int .i64 x.inc] : Array Value)[i]? := by intro i; rw [hW]; go_simp
  have g0 : Grew w W := by rw [hW]; exact (Grew.refl _).alloc _
  clear hW
  have hDW : FS W D x.ws := hD.grew g0
  go_wp2
  go_loopw [3, 7] (fun v c wr => ∃ (i : Nat) (o : Array Obj) (n : Nat), (i : Int) ≤ x.n ∧ c = .int .i64 i ∧ wr = ext W o n ∧ OwnF 22 wr W.heap.size v (listTo x i)) (fun _ c _ => x.n.toNat - (intOf c).toNat)
  case atStart => exact ⟨0, #[], _, Hn.out.1, rfl, ext_zero.symm, by simpa [listTo] using OwnF.nil _ _ _⟩
  case round =>
    obtain ⟨i, o2, n2, hi, rfl, hwr, hown⟩ := hrel
    subst hwr
    by_cases hlt : (i : Int) < x.n
    · have hp := VecM.right_place Hx.out hlt
      have hnl := Hnl.out
      have hN := Hn.out
      have h2 : IntKind.i64.wrap (i * x.inc) = i * x.inc := IntWalk.i64_in _ (by omega)
      have h3 : IntKind.i64.wrap (x.off + i * x.inc) = x.off + i * x.inc := IntWalk.i64_in _ (by omega)
      obtain ⟨blk, o, cap', rfl, hblk, hc⟩ := hDW.open (by omega)
      obtain ⟨b, hb, hf⟩ := hc (x.place i) (by unfold VecM.place; omega)
      unfold VecM.place at hb
      have hf' : IsF b (x.num i) := hf
      have hll : (listTo x i).length = i := by simp [listTo]
      clear hc
      go_wp2_with (at_builtin; refine append1_f finfo (((Grew.refl W).ext _ _)) hown hf' (by rw [hll]; omega) _ _ rfl rfl rfl (by simp only [size_ext]) rfl ?_; intro v oo nn ho hn)
      go_roundw
      case rel => exact ⟨i + 1, oo, nn, by omega, by go_num, rfl, by rw [listTo_succ]; exact ho⟩
      case measure => simp [intOf]; omega
    · have e : x.n.toNat = i := by have := Hn.out; omega
      have hown' := hown
      rw [show listTo x i = x.list by unfold listTo VecM.list; rw [e]] at hown'
      have hfs := hown'.fs (by rw [VecM.list_length]; have := Hnl.out; omega)
      go_wp2
      go_ret
      exact ⟨_, rfl, hfs, by (show Grew _ _; repeat (first | (with_reducible exact Grew.refl _) | (with_reducible assumption) | (with_reducible exact Grew.same_o) | (with_reducible exact Grew.app_o) | (with_reducible refine Grew.ext ?_ _ _) | (with_reducible refine Grew.alloc ?_ _) | ((with_reducible refine Grew.setCell ?_ ?_ _); rotate_left; (focus (dsimp only; first | omega | (simp only [size_ext, World.size_alloc, Array.size_append]; omega)))) | (with_reducible refine Grew.drewN ?_ _) | (with_reducible refine Grew.drew ?_)))⟩
/-- All numbers, column by column. -/
def numTo (x : MatM) (R k : Nat) : List Nat := (List.range k).map fun t => x.num (t % R) (t / R)
def numL (x : MatM) : List Nat := numTo x x.rows.toNat (x.rows.toNat * x.cols.toNat)
theorem numTo_succ (x : MatM) (R k : Nat) : numTo x R (k + 1) = numTo x R k ++ [x.num (k % R) (k / R)] := by unfold numTo; rw [List.range_succ, List.map_append]; rfl
theorem numTo_length (x : MatM) (R k : Nat) : (numTo x R k).length = k := by simp [numTo]
theorem numTo_at (x : MatM) {R i j : Nat} (hi : i < R) : numTo x R (j * R + (i + 1)) = numTo x R (j * R + i) ++ [x.num i j] := by
  rw [← Nat.add_assoc, numTo_succ]
  congr 3
  · rw [Nat.add_comm, Nat.add_mul_mod_self_right, Nat.mod_eq_of_lt hi]
  · rw [Nat.add_comm, Nat.add_mul_div_right _ _ (by omega), Nat.div_eq_of_lt hi, Nat.zero_add]
set_option maxRecDepth 100000 in
set_option maxHeartbeats 2000000 in
/-- view.Numbers. -/
theorem numbers_any (x : MatM) (D : Value) (w : World) (hD : FS w D x.ws) (hx : x.good = true) (hwf : x.wf) (hl : x.ws.length ≤ 1000000) (hr : x.rows ≤ 1000) (hc : x.cols ≤ 1000) :
   Calls Try.prog 198 #[.agg #[D, .int .i64 x.off, .int .i64 x.rows, .int .i64 x.cols, .int .i64 x.ld]] w
     (fun e w' => ∃ v, e = .returned v ∧ FS w' v (numL x) ∧ ∃ o n, w' = ext w o n) := by
  have hn := MatM.good_n hx
  have hsp : ∀ w', FS w' D x.ws → Calls Try.prog 194 #[.agg #[D, .int .i64 x.off, .int .i64 x.rows, .int .i64 x.cols, .int .i64 x.ld]] w' (fun e w2 => e = .returned (.tuple #[.int .i64 (spanLo x), .int .i64 (spanHi x), .bool (MatM.full x)]) ∧ ∃ o n, w2 = ext w' o n) := fun w' h => span_any x D w' h hwf hl
  cases hf : MatM.full x
  · rw [hf] at hsp
    have e : numL x = [] := by
      have h0 : x.rows.toNat * x.cols.toNat = 0 := by
        unfold MatM.full at hf; rw [hx] at hf
        simp at hf
        by_cases h : x.rows = 0
        · rw [h]; simp
        · rw [hf h]; simp
      unfold numL numTo; rw [h0]; rfl
    rw [e]
    clear hf e hx
    go_enter Try.func198, Try.ntmps198
    refine seq_stop ?_
    go_wp2
    refine stop_go (fun W hW => ?_)
    have s1 : w.heap.size < W.heap.size := by rw [hW]; simp only [World.size_alloc]; omega
    have b1 : ∀ i, W.cell? ⟨w.heap.size, i, none⟩ = (#[D, .int .i64 x.off, .int .i64 x.rows, .int .i64 x.cols, .int .i64 x.ld] : Array Value)[i]? := by intro i; rw [hW]; go_simp
    have g0 : Grew w W := by rw [hW]; exact (Grew.refl _).alloc _
    clear hW
    have hDW : FS W D x.ws := hD.grew g0
    go_wp2_with (first | (go_at_call 194; ((with_reducible refine (hsp _ ?_).mono ?_); (focus (first | (with_reducible assumption) | (with_reducible refine FS.ext ?_ _ _; with_reducible assumption) | (with_reducible refine IS.ext ?_ _ _; with_reducible assumption) | (refine hDu _ ?_; with_reducible assumption) | (refine hOu _ ?_; with_reducible assumption) | (refine hDa _ ?_; with_reducible assumption) | (refine hDb _ ?_; with_reducible assumption) | (refine hDc _ ?_; with_reducible assumption) | (refine hDd _ ?_; with_reducible assumption) | (refine FW.fs ?_ (by omega) _; with_reducible assumption) | (refine WS.fs ?_; with_reducible assumption) | (refine FW.fs ?_ (by omega) _; assumption) | omega | assumption)); rintro e w1 ⟨rfl, o1, n1, rfl⟩)))
    go_ret
    exact ⟨_, rfl, FS.nil _, by (show Grew _ _; repeat (first | (with_reducible exact Grew.refl _) | (with_reducible assumption) | (with_reducible exact Grew.same_o) | (with_reducible exact Grew.app_o) | (with_reducible refine Grew.ext ?_ _ _) | (with_reducible refine Grew.alloc ?_ _) | ((with_reducible refine Grew.setCell ?_ ?_ _); rotate_left; (focus (dsimp only; first | omega | (simp only [size_ext, World.size_alloc, Array.size_append]; omega)))) | (with_reducible refine Grew.drewN ?_ _) | (with_reducible refine Grew.drew ?_)))⟩
  · rw [hf] at hsp
    have h0 : x.rows ≠ 0 ∧ x.cols ≠ 0 := by
      unfold MatM.full at hf; rw [hx] at hf; simpa using hf
    obtain ⟨R, hR⟩ : ∃ R : Nat, x.rows = R := ⟨x.rows.toNat, by omega⟩
    obtain ⟨C, hC⟩ : ∃ C : Nat, x.cols = C := ⟨x.cols.toNat, by omega⟩
    have hRC : R * C ≤ 1000 * 1000 := Nat.mul_le_mul (by omega) (by omega)
    have eL : numL x = numTo x R (R * C) := by unfold numL; rw [hR, hC]; rfl
    rw [eL]
    have hcol : ∀ (j : Nat) w', j < C → FS w' D x.ws → Calls Try.prog 149 #[.agg #[D, .int .i64 x.off, .int .i64 R, .int .i64 C, .int .i64 x.ld], .int .i64 j] w' (fun e w2 => e = .returned (.agg #[D, .int .i64 (x.off + j * x.ld), .int .i64 R, .int .i64 1]) ∧ ∃ o n, w2 = ext w' o n) := fun j w' hj h => by
      have := col_any x D j w' h hx hwf (by omega)
      have e : (colV x j).off = x.off + j * x.ld := by unfold colV; simp; omega
      rw [e, hR, hC] at this
      exact this
    have hpl : ∀ i j : Nat, i < R → j < C → 0 ≤ x.off + j * x.ld + i ∧ x.off + j * x.ld + i < x.ws.length ∧ (x.off + j * x.ld + i).toNat = x.place i j ∧ 0 ≤ x.off + j * x.ld := fun i j hi hj => by
      have h := MatM.good_place hx (i := i) (j := j) (by omega) (by omega)
      unfold MatM.place
      refine ⟨by omega, by omega, by congr 1; omega, by omega⟩
    rw [hR, hC] at hsp ⊢
    have hpos := MatM.good_place hx (i := 0) (j := 0) (by omega) (by omega)
    obtain ⟨blk, o, cap', rfl, hblk, hcw⟩ := hD.open (by omega)
    have Hcw := hid hcw
    have HPL := hid hpl
    clear hpl hf hx hwf hn eL h0 hcw hpos
    go_enter Try.func198, Try.ntmps198
    refine seq_stop ?_
    go_wp2
    refine stop_go (fun W hW => ?_)
    have s1 : w.heap.size < W.heap.size := by rw [hW]; simp only [World.size_alloc]; omega
    have b1 : ∀ i, W.cell? ⟨w.heap.size, i, none⟩ = (#[.slice (some ⟨blk, o, none⟩) x.ws.length cap', .int .i64 x.off, .int .i64 R, .int .i64 C, .int .i64 x.ld] : Array Value)[i]? := by intro i; rw [hW]; go_simp
    have g0 : Grew w W := by rw [hW]; exact (Grew.refl _).alloc _
    clear hW
    have hDW := hD.grew g0
    go_wp2_with (first | (go_at_call 194; ((with_reducible refine (hsp _ ?_).mono ?_); (focus (first | (with_reducible assumption) | (with_reducible refine FS.ext ?_ _ _; with_reducible assumption) | (with_reducible refine IS.ext ?_ _ _; with_reducible assumption) | (refine hDu _ ?_; with_reducible assumption) | (refine hOu _ ?_; with_reducible assumption) | (refine hDa _ ?_; with_reducible assumption) | (refine hDb _ ?_; with_reducible assumption) | (refine hDc _ ?_; with_reducible assumption) | (refine hDd _ ?_; with_reducible assumption) | (refine FW.fs ?_ (by omega) _; with_reducible assumption) | (refine WS.fs ?_; with_reducible assumption) | (refine FW.fs ?_ (by omega) _; assumption) | omega | assumption)); rintro e w1 ⟨rfl, o1, n1, rfl⟩)))
    refine name_any (fun V hV => ?_)
    have gV : Grew W V := by rw [← hV]; (show Grew _ _; (try simp only [← Array.append_assoc]); repeat (first | (with_reducible exact Grew.same_o) | (with_reducible exact Grew.refl _) | (with_reducible assumption) | (with_reducible refine Grew.alloc ?_ _) | (with_reducible refine Grew.app_r ?_) | ((with_reducible refine Grew.setCell ?_ ?_ _); rotate_left; (focus (dsimp only; first | omega | (simp only [size_ext, World.size_alloc, Array.size_append]; omega)))) | (with_reducible refine Grew.ext ?_ _ _) | (with_reducible refine Grew.drewN ?_ _) | (with_reducible refine Grew.drew ?_)))
    have gwV := Grew.trans g0 gV
    have t1 : ∀ w', Grew V w' → ∀ i, w'.cell? ⟨w.heap.size, i, none⟩ = (#[.slice (some ⟨blk, o, none⟩) x.ws.length cap', .int .i64 x.off, .int .i64 R, .int .i64 C, .int .i64 x.ld] : Array Value)[i]? := fun w' g i => ((Grew.trans gV g).cell s1).trans (b1 i)
    have zV := gV.below.size
    have hDV := hDW.grew gV
    have k1 : w.heap.size < V.heap.size := by omega
    clear hV b1 hsp
    go_loopw [6, 20] (fun v c wr => ∃ (j : Nat), j ≤ C ∧ c = .int .i64 j ∧ Grew V wr ∧ OwnF 22 wr V.heap.size v (numTo x R (j * R))) (fun _ c _ => C - (intOf c).toNat)
    case atStart => exact ⟨0, Nat.zero_le _, rfl, Grew.refl _, by simpa [numTo] using OwnF.nil _ _ _⟩
    case round =>
      obtain ⟨j, hj, rfl, gr, hown⟩ := hrel
      by_cases hlt : j < C
      · have tt := t1 _ gr
        have zr := gr.below.size
        have kr : w.heap.size < wr.heap.size := by omega
        have hDr := hDV.grew gr
        go_wp2_with (first | (go_at_call 149; ((with_reducible refine (hcol j _ hlt ?_).mono ?_); (focus (first | (with_reducible assumption) | (with_reducible refine FS.ext ?_ _ _; with_reducible assumption) | (with_reducible refine IS.ext ?_ _ _; with_reducible assumption) | (refine hDu _ ?_; with_reducible assumption) | (refine hOu _ ?_; with_reducible assumption) | (refine hDa _ ?_; with_reducible assumption) | (refine hDb _ ?_; with_reducible assumption) | (refine hDc _ ?_; with_reducible assumption) | (refine hDd _ ?_; with_reducible assumption) | (refine FW.fs ?_ (by omega) _; with_reducible assumption) | (refine WS.fs ?_; with_reducible assumption) | (refine FW.fs ?_ (by omega) _; assumption) | omega | assumption)); rintro e w1 ⟨rfl, o2, n2, rfl⟩)))
        refine name_any (fun U hU => ?_)
        obtain ⟨T, hT⟩ : ∃ T, T = wr.heap.size + o2.size := ⟨_, rfl⟩
        have gU : Grew wr U := by rw [← hU]; (show Grew _ _; (try simp only [← Array.append_assoc]); repeat (first | (with_reducible exact Grew.same_o) | (with_reducible exact Grew.refl _) | (with_reducible assumption) | (with_reducible refine Grew.alloc ?_ _) | (with_reducible refine Grew.app_r ?_) | ((with_reducible refine Grew.setCell ?_ ?_ _); rotate_left; (focus (dsimp only; first | omega | (simp only [size_ext, World.size_alloc, Array.size_append]; omega)))) | (with_reducible refine Grew.ext ?_ _ _) | (with_reducible refine Grew.drewN ?_ _) | (with_reducible refine Grew.drew ?_)))
        have BT : Box U T #[.slice (some ⟨blk, o, none⟩) x.ws.length cap', .int .i64 (x.off + j * x.ld), .int .i64 R, .int .i64 1] := by rw [← hU]; exact Box.new' (by rw [hT]; simp only [size_ext])
        have nT : ∀ k, u6.ownBlock = some k → k ≠ T := fun k hk => by
          obtain ⟨bs, h1, _⟩ := hown
          have := (World.ownsRow.lt h1 k hk).2
          omega
        have hownU := hown.grew gU
        have gVU := Grew.trans gr gU
        have kT := BT.lt
        have tT := BT.cell
        simp only [← hT]
        clear hU hT hown gU tt hDr
        go_loopw [6, 28] (fun v c wx => ∃ (i : Nat), i ≤ R ∧ c = .int .i64 i ∧ Grew V wx ∧ Box wx T #[.slice (some ⟨blk, o, none⟩) x.ws.length cap', .int .i64 (x.off + j * x.ld), .int .i64 R, .int .i64 1] ∧ OwnF 22 wx V.heap.size v (numTo x R (j * R + i)) ∧ ∀ k, v.ownBlock = some k → k ≠ T) (fun _ c _ => R - (intOf c).toNat)
        case atStart => exact ⟨0, Nat.zero_le _, rfl, gVU, BT, hownU, nT⟩
        case round =>
          clear BT hownU nT gVU kT tT
          obtain ⟨i, hi, rfl, gx, BX, hown, nv⟩ := hrel
          by_cases hli : i < R
          · obtain ⟨hp1, hp2, hp3, hp4⟩ := HPL.out i j hli hlt
            have h3 : IntKind.i64.wrap (x.off + j * x.ld + i) = x.off + j * x.ld + i := IntWalk.i64_in _ (by omega)
            obtain ⟨b, hb, hf⟩ := Hcw.out (x.place i j) (by omega)
            rw [← hp3] at hb
            have hf' : IsF b (x.num i j) := hf
            have hbx := ((Grew.trans gwV gx).cell hblk).trans hb
            have zx := (Grew.trans gwV gx).below.size
            have kb : blk < wr.heap.size := by omega
            have tX := BX.cell
            have kX := BX.lt
            have hll : (numTo x R (j * R + i)).length < 17592186044415 := by
              rw [numTo_length]
              have := Nat.mul_le_mul_right R (show j + 1 ≤ C by omega)
              rw [Nat.add_mul, Nat.mul_comm C R] at this; omega
            clear hb hf hp3
            go_wp2_with (at_builtin; refine append1_fk finfo gx hown hf' hll _ _ rfl rfl rfl ?_ rfl ?_; (focus (first | rfl | simp only [size_ext])); intro v2 w2 gw2 zw2 hv2 hk2 hn2)
            go_roundw
            case rel => exact ⟨i + 1, hli, by go_num, gw2, (by obtain ⟨e, he⟩ := BX; exact ⟨e, (hk2 T kX (fun h => nv T h rfl)).trans he⟩), by rw [numTo_at x hli]; exact hv2, fun k hk => by rcases hn2 k hk with h | h; exact nv k h; omega⟩
            case measure => simp [intOf]; omega
          · have e : i = R := by omega
            subst e
            go_wp2
            go_roundw
            case rel => exact ⟨j + 1, hlt, by go_num, gx, by rw [Nat.add_mul, Nat.one_mul]; exact hown⟩
            case measure => simp [intOf]; omega
      · have e : j = C := by omega
        subst e
        rw [Nat.mul_comm] at hown
        have hfs := hown.fs (by rw [numTo_length]; omega)
        go_wp2
        go_ret
        exact ⟨_, rfl, hfs, Grew.trans gwV gr⟩
set_option maxRecDepth 100000 in
set_option maxHeartbeats 1000000 in
/-- move.Finite. -/
theorem mfin_any (x : MatM) (D : Value) (w : World) (hD : FS w D x.ws) (hwf : x.wf) (hl : x.ws.length ≤ 1000000) (hr : x.rows ≤ 1000) (hc : x.cols ≤ 1000) :
   Calls Try.prog 174 #[.agg #[D, .int .i64 x.off, .int .i64 x.rows, .int .i64 x.cols, .int .i64 x.ld]] w
     (fun e w' => e = .returned (.bool (x.good && finL (numL x))) ∧ ∃ o n, w' = ext w o n) := by
  have hgd : ∀ w', FS w' D x.ws → Calls Try.prog 130 #[.agg #[D, .int .i64 x.off, .int .i64 x.rows, .int .i64 x.cols, .int .i64 x.ld]] w' (fun e w2 => e = .returned (.bool x.good) ∧ ∃ o n, w2 = ext w' o n) := fun w' h => good_any x D w' h hwf
  have hnb : x.good = true → ∀ w', FS w' D x.ws → Calls Try.prog 198 #[.agg #[D, .int .i64 x.off, .int .i64 x.rows, .int .i64 x.cols, .int .i64 x.ld]] w' (fun e w2 => ∃ v, e = .returned v ∧ FS w2 v (numL x) ∧ ∃ o n, w2 = ext w' o n) := fun hg w' h => numbers_any x D w' h hg hwf hl hr hc
  cases hg : x.good
  · rw [hg] at hgd
    clear hnb hwf
    go_enter Try.func174, Try.ntmps174
    refine seq_stop ?_
    go_wp2
    refine stop_go (fun W hW => ?_)
    have s1 : w.heap.size < W.heap.size := by rw [hW]; simp only [World.size_alloc]; omega
    have b1 : ∀ i, W.cell? ⟨w.heap.size, i, none⟩ = (#[D, .int .i64 x.off, .int .i64 x.rows, .int .i64 x.cols, .int .i64 x.ld] : Array Value)[i]? := by intro i; rw [hW]; go_simp
    have g0 : Grew w W := by rw [hW]; exact (Grew.refl _).alloc _
    clear hW
    have hDW : FS W D x.ws := hD.grew g0
    go_wp2_with (first | (go_at_call 130; ((with_reducible refine (hgd _ ?_).mono ?_); (focus (first | (with_reducible assumption) | (with_reducible refine FS.ext ?_ _ _; with_reducible assumption) | (with_reducible refine IS.ext ?_ _ _; with_reducible assumption) | (refine hDu _ ?_; with_reducible assumption) | (refine hOu _ ?_; with_reducible assumption) | (refine hDa _ ?_; with_reducible assumption) | (refine hDb _ ?_; with_reducible assumption) | (refine hDc _ ?_; with_reducible assumption) | (refine hDd _ ?_; with_reducible assumption) | (refine FW.fs ?_ (by omega) _; with_reducible assumption) | (refine WS.fs ?_; with_reducible assumption) | (refine FW.fs ?_ (by omega) _; assumption) | omega | assumption)); rintro e w1 ⟨rfl, o1, n1, rfl⟩)))
    go_ret
    exact ⟨rfl, by (show Grew _ _; repeat (first | (with_reducible exact Grew.refl _) | (with_reducible assumption) | (with_reducible exact Grew.same_o) | (with_reducible exact Grew.app_o) | (with_reducible refine Grew.ext ?_ _ _) | (with_reducible refine Grew.alloc ?_ _) | ((with_reducible refine Grew.setCell ?_ ?_ _); rotate_left; (focus (dsimp only; first | omega | (simp only [size_ext, World.size_alloc, Array.size_append]; omega)))) | (with_reducible refine Grew.drewN ?_ _) | (with_reducible refine Grew.drew ?_)))⟩
  · rw [hg] at hgd
    have hnb' := hnb hg
    obtain ⟨L, hL⟩ : ∃ L, L = numL x := ⟨_, rfl⟩
    rw [← hL] at hnb' ⊢
    clear hnb hwf hg hL
    go_enter Try.func174, Try.ntmps174
    refine seq_stop ?_
    go_wp2
    refine stop_go (fun W hW => ?_)
    have s1 : w.heap.size < W.heap.size := by rw [hW]; simp only [World.size_alloc]; omega
    have b1 : ∀ i, W.cell? ⟨w.heap.size, i, none⟩ = (#[D, .int .i64 x.off, .int .i64 x.rows, .int .i64 x.cols, .int .i64 x.ld] : Array Value)[i]? := by intro i; rw [hW]; go_simp
    have g0 : Grew w W := by rw [hW]; exact (Grew.refl _).alloc _
    clear hW
    have hDW : FS W D x.ws := hD.grew g0
    go_wp2_with (first | (go_at_call 130; ((with_reducible refine (hgd _ ?_).mono ?_); (focus (first | (with_reducible assumption) | (with_reducible refine FS.ext ?_ _ _; with_reducible assumption) | (with_reducible refine IS.ext ?_ _ _; with_reducible assumption) | (refine hDu _ ?_; with_reducible assumption) | (refine hOu _ ?_; with_reducible assumption) | (refine hDa _ ?_; with_reducible assumption) | (refine hDb _ ?_; with_reducible assumption) | (refine hDc _ ?_; with_reducible assumption) | (refine hDd _ ?_; with_reducible assumption) | (refine FW.fs ?_ (by omega) _; with_reducible assumption) | (refine WS.fs ?_; with_reducible assumption) | (refine FW.fs ?_ (by omega) _; assumption) | omega | assumption)); rintro e w1 ⟨rfl, o1, n1, rfl⟩)) | (go_at_call 198; ((with_reducible refine (hnb' _ ?_).mono ?_); (focus (first | (with_reducible assumption) | (with_reducible refine FS.ext ?_ _ _; with_reducible assumption) | (with_reducible refine IS.ext ?_ _ _; with_reducible assumption) | (refine hDu _ ?_; with_reducible assumption) | (refine hOu _ ?_; with_reducible assumption) | (refine hDa _ ?_; with_reducible assumption) | (refine hDb _ ?_; with_reducible assumption) | (refine hDc _ ?_; with_reducible assumption) | (refine hDd _ ?_; with_reducible assumption) | (refine FW.fs ?_ (by omega) _; with_reducible assumption) | (refine WS.fs ?_; with_reducible assumption) | (refine FW.fs ?_ (by omega) _; assumption) | omega | assumption)); rintro e w1 ⟨v, rfl, hv, o2, n2, rfl⟩; (try simp only [drew_ext, drewN_ext, ext_ext] at hv))) | (go_at_call 200; ((with_reducible refine (nfin_any _ _ _ hv).mono ?_); rintro e w1 ⟨rfl, rfl⟩)))
    go_ret
    exact ⟨ret_bool (by simp), by (show Grew _ _; repeat (first | (with_reducible exact Grew.refl _) | (with_reducible assumption) | (with_reducible exact Grew.same_o) | (with_reducible exact Grew.app_o) | (with_reducible refine Grew.ext ?_ _ _) | (with_reducible refine Grew.alloc ?_ _) | ((with_reducible refine Grew.setCell ?_ ?_ _); rotate_left; (focus (dsimp only; first | omega | (simp only [size_ext, World.size_alloc, Array.size_append]; omega)))) | (with_reducible refine Grew.drewN ?_ _) | (with_reducible refine Grew.drew ?_)))⟩
end Go.Proofs.Ytcmggfpcbijcjaa
end
section
/-
  Worlds that grew: arrays of new blocks, however they are bracketed.
-/
set_option linter.unusedSimpArgs false
set_option linter.unusedVariables false
namespace Sedge
open Go Go.RowKit
theorem Grew.app_r {X U : World} {o o' : Array Obj} {n : Nat} (h : Grew X (Sedge.ext U o n)) : Grew X (Sedge.ext U (o ++ o') n) := h.trans ⟨o', n, by simp⟩
end Sedge
end
section
/-
  Contracts: equil.greatest, of equil.Factors' two closures.
-/
set_option linter.unusedSimpArgs false
set_option linter.unusedVariables false
open Go Go.RowKit Sedge
namespace Go.Proofs.Ytcmggfpcbijcjaa
/-- The greatest of what isn't 0, so far. -/
def bestTo (X : Nat → Nat) (e : Nat → Int) : Nat → Option Int
  | 0 => none
  | k + 1 => if feq0 (X k) = true then bestTo X e k else some (match bestTo X e k with
    | none => e k
    | some b => max b (e k))
def bestI (o : Option Int) : Int := match o with
  | none => -1048576
  | some b => b
theorem bestTo_in {X : Nat → Nat} {e : Nat → Int} (h : ∀ k, -100000 ≤ e k ∧ e k ≤ 100000) : ∀ n b, bestTo X e n = some b → -100000 ≤ b ∧ b ≤ 100000
  | 0, b, hb => by cases hb
  | n + 1, b, hb => by
    unfold bestTo at hb
    split at hb
    · exact bestTo_in h n b hb
    · have h1 := h n
      cases hq : bestTo X e n with
      | none => rw [hq] at hb; simp at hb; omega
      | some c =>
        have h2 := bestTo_in h n c hq
        rw [hq] at hb; simp at hb; omega
theorem bestTo_congr {X Y : Nat → Nat} {e f : Nat → Int} : ∀ n, (∀ k, k < n → X k = Y k ∧ e k = f k) → bestTo X e n = bestTo Y f n
  | 0, _ => rfl
  | n + 1, h => by
    unfold bestTo
    rw [bestTo_congr n (fun k hk => h k (by omega)), (h n (by omega)).1, (h n (by omega)).2]
theorem best_zero {X : Nat → Nat} {e : Nat → Int} {n : Nat} (h : feq0 (X n) = true) : bestTo X e (n + 1) = bestTo X e n := by
  show (if feq0 (X n) = true then _ else _) = _; rw [if_pos h]
theorem best_step {X : Nat → Nat} {e : Nat → Int} {n : Nat} (h : feq0 (X n) = false) (he : -100000 ≤ e n) : bestI (bestTo X e (n + 1)) = max (bestI (bestTo X e n)) (e n) := by
  show bestI (if feq0 (X n) = true then _ else _) = _
  rw [if_neg (by rw [h]; decide)]
  cases bestTo X e n with
  | none => show e n = max (-1048576) (e n); omega
  | some b => rfl
theorem best_some {X : Nat → Nat} {e : Nat → Int} (h : ∀ k, -100000 ≤ e k ∧ e k ≤ 100000) (n : Nat) : ((bestI (bestTo X e n)) != -1048576) = (bestTo X e n).isSome := by
  cases hq : bestTo X e n with
  | none => rfl
  | some b =>
    have := bestTo_in h n b hq
    show (b != -1048576) = true
    simp; omega
set_option maxRecDepth 100000 in
/-- equil.Factors' first closure. -/
theorem ecl1_any (i : Int) (b x : Nat) (w : World) (hb : IsF b x) : Calls Try.prog 177 #[.int .i64 i, .float .f64 b] w (fun e w' => e = .returned (.int .i64 (fexp x)) ∧ ∃ o n, w' = ext w o n) := by
  have h := fun w' => nexp_any b x w' hb
  go_enter Try.func177, Try.ntmps177
  go_wp2_with (first | (go_at_call 178; ((with_reducible refine (h _).mono ?_); rintro e w1 ⟨rfl, o1, n1, rfl⟩)))
  go_ret
  exact ⟨rfl, by (show Grew _ _; repeat (first | (with_reducible exact Grew.refl _) | (with_reducible assumption) | (with_reducible exact Grew.same_o) | (with_reducible exact Grew.app_o) | (with_reducible refine Grew.ext ?_ _ _) | (with_reducible refine Grew.alloc ?_ _) | ((with_reducible refine Grew.setCell ?_ ?_ _); rotate_left; (focus (dsimp only; first | omega | (simp only [size_ext, World.size_alloc, Array.size_append]; omega)))) | (with_reducible refine Grew.drewN ?_ _) | (with_reducible refine Grew.drew ?_)))⟩
set_option maxRecDepth 100000 in
set_option maxHeartbeats 1000000 in
/-- equil.greatest, of the first closure. -/
theorem great1_any (D : Value) (ws : List Nat) (w : World) (hD : FS w D ws) (hl : ws.length ≤ 1000000) :
   Calls Try.prog 175 #[D, .func (.func 177) #[] #[]] w (fun e w' => e = .returned (.tuple #[.int .i64 (bestI (bestTo (fun k => ws.getD k 0) (fun k => fexp (ws.getD k 0)) ws.length)), .bool (bestTo (fun k => ws.getD k 0) (fun k => fexp (ws.getD k 0)) ws.length).isSome]) ∧ ∃ o n, w' = ext w o n) := by
  obtain ⟨X, hX⟩ : ∃ X : Nat → Nat, X = fun k => ws.getD k 0 := ⟨_, rfl⟩
  obtain ⟨e, he⟩ : ∃ e : Nat → Int, e = fun k => fexp (ws.getD k 0) := ⟨_, rfl⟩
  have heb : ∀ k, -100000 ≤ e k ∧ e k ≤ 100000 := fun k => by rw [he]; have := fexp_range' (ws.getD k 0); simp only; omega
  rw [← hX, ← he]
  have hsm := best_some heb (X := X)
  have hcl : ∀ (i : Nat) (b : Nat) w', IsF b (ws.getD i 0) → Calls Try.prog 177 #[.int .i64 i, .float .f64 b] w' (fun e2 w2 => e2 = .returned (.int .i64 (e i)) ∧ ∃ o n, w2 = ext w' o n) := fun i b w' hb => by rw [he]; exact ecl1_any i b _ w' hb
  obtain ⟨a, cap, rfl⟩ := hD.shape
  have HX := hid hX
  have HE := hid heb
  have HS := hid hsm
  clear hX he heb hsm
  go_enter Try.func175, Try.ntmps175
  go_wp2
  go_loopw [7, 12] (fun m c wr => ∃ (k : Nat), k ≤ ws.length ∧ c = .int .i64 k ∧ m = .int .i64 (bestI (bestTo X e k)) ∧ Grew w wr) (fun _ c _ => ws.length - (intOf c).toNat)
  case atStart => exact ⟨0, Nat.zero_le _, rfl, rfl, Grew.refl _⟩
  case round =>
    obtain ⟨k, hk, rfl, rfl, g⟩ := hrel
    have hDr := hD.grew g
    by_cases hlt : k < ws.length
    · obtain ⟨blk, o, ea, hblk, hc⟩ := hDr.at.2 (by omega)
      subst ea
      obtain ⟨b, hb, hf⟩ := hc k hlt
      have hck := fun w' => hcl k b w' hf
      have hXk : X k = ws.getD k 0 := by rw [HX.out]
      clear hc hcl
      have hz : (FloatKind.f64.format.order b 0 != some Ordering.eq) = !(feq0 (X k)) := by
        rw [hXk]; unfold feq0; rw [← hf.order isF_zero]; rfl
      cases hq : feq0 (X k)
      · rw [hq] at hz
        have hst := best_step (e := e) hq (HE.out k).1
        obtain ⟨B, hB⟩ : ∃ B, B = bestI (bestTo X e k) := ⟨_, rfl⟩
        obtain ⟨E, hE⟩ : ∃ E, E = e k := ⟨_, rfl⟩
        rw [← hB, ← hE] at hst
        rw [← hE] at hck
        rw [← hB]
        have HST := hid hst
        clear hst hB hE hq hXk
        go_wp2_with (first | (go_at_call 177; ((with_reducible refine (hck _).mono ?_); rintro e w1 ⟨rfl, o1, n1, rfl⟩)))
        go_roundw
        case rel => exact ⟨k + 1, hlt, by go_num, by rw [HST.out]; congr 1; split <;> omega, Grew.trans g ⟨_, _, rfl⟩⟩
        case measure => simp [intOf]; omega
      · rw [hq] at hz
        have hst := best_zero (e := e) hq
        have HST := hid hst
        clear hst hq hXk
        go_wp2
        go_roundw
        case rel => exact ⟨k + 1, hlt, by go_num, by rw [HST.out], g⟩
        case measure => simp [intOf]; omega
    · have e1 : k = ws.length := by omega
      subst e1
      have h1 := HS.out ws.length
      go_wp2
      go_ret2
      exact ⟨rfl, g⟩
set_option maxRecDepth 100000 in
set_option maxHeartbeats 1000000 in
/-- equil.Factors' second closure. -/
theorem ecl2_any (i b x p : Nat) (R : Value) (rs : List Int) (w : World) (hb : IsF b x) (hR : IS .i64 w R rs) (hp : ∀ i, w.cell? ⟨p, i, none⟩ = (#[R] : Array Value)[i]?) (kp : p < w.heap.size) (hi : i < rs.length) (hrb : ∀ k, -50000 ≤ rs.getD k 0 ∧ rs.getD k 0 ≤ 50000) :
   Calls Try.prog 179 #[.int .i64 i, .float .f64 b, .pointer (some ⟨p, 0, none⟩)] w (fun e w' => e = .returned (.int .i64 (fexp x + rs.getD i 0)) ∧ ∃ o n, w' = ext w o n) := by
  have h := fun w' => nexp_any b x w' hb
  have hr := fexp_range' x
  have hrk := hrb i
  obtain ⟨aR, cR, rfl⟩ := hR.shape
  obtain ⟨blk, o, ea, hblk, hc⟩ := hR.at.2 (by omega)
  subst ea
  have hz := hc i hi
  obtain ⟨z, hzz⟩ : ∃ z, z = rs.getD i 0 := ⟨_, rfl⟩
  rw [← hzz] at hz hrk ⊢
  obtain ⟨E, hE⟩ : ∃ E, E = fexp x := ⟨_, rfl⟩
  rw [← hE] at hr ⊢
  simp only [← hE] at h
  have r1 : IntKind.i64.wrap (E + z) = E + z := IntWalk.i64_in _ (by omega)
  clear hc hR hrb hzz hE
  go_enter Try.func179, Try.ntmps179
  go_wp2
  refine wp_region_R (Grew w) [] [(0,0), (0,2), (0,3), (0,4), (0,5), (1,1), (0,6), (0,7)] (by kernel_rfl) (by kernel_rfl) (fun _ _ _ _ h _ => h) (by first | exact ⟨_, _, ext_drew⟩ | exact ⟨_, _, drew_ext0⟩ | (show Grew _ _; repeat (first | (with_reducible exact Grew.refl _) | (with_reducible assumption) | (with_reducible exact Grew.same_o) | (with_reducible exact Grew.app_o) | (with_reducible refine Grew.ext ?_ _ _) | (with_reducible refine Grew.alloc ?_ _) | ((with_reducible refine Grew.setCell ?_ ?_ _); rotate_left; (focus (dsimp only; first | omega | (simp only [size_ext, World.size_alloc, Array.size_append]; omega)))) | (with_reducible refine Grew.drewN ?_ _) | (with_reducible refine Grew.drew ?_)))) ?_
  go_wp2_with (first | ((with_reducible refine wpR_id ?_); first | (refine wpR_take (v := ?_) rfl rfl ?_ ?_; rotate_left; (focus (rintro w' ⟨o', n', rfl⟩; go_simp; try with_reducible rfl)); simp only [Act.put, List.setIfInBounds_toArray, List.set_cons_zero, List.set_cons_succ]) | (refine wpR_pure (v := ?_) rfl rfl ?_ ?_; rotate_left; (focus (intro w'; go_simp; try with_reducible rfl)); simp only [Act.put, List.setIfInBounds_toArray, List.set_cons_zero, List.set_cons_succ]) | (refine wpR_takeG (v := ?_) rfl rfl rfl rfl rfl ?_ ?_; rotate_left; (focus (rintro w' ⟨o', n', rfl⟩; go_simp; try with_reducible rfl)); simp only [Act.put, List.setIfInBounds_toArray, List.set_cons_zero, List.set_cons_succ]) | (refine wpR_skip rfl rfl rfl rfl rfl rfl ?_; simp only [Act.put, List.setIfInBounds_toArray, List.set_cons_zero, List.set_cons_succ]) | (refine wpR_skipU rfl rfl rfl rfl rfl ?_; simp only [Act.put, List.setIfInBounds_toArray, List.set_cons_zero, List.set_cons_succ]) | (refine wpR_do rfl rfl (fun K hK => ?_)) | (refine wpR_doG rfl rfl rfl rfl rfl (fun K hK => ?_)) | (refine wpR_last rfl rfl (fun K hK => ?_)) | (refine wpR_nil ?_)) | ((with_reducible refine wpR_go ?_ ?_); (focus (show Grew _ _; repeat (first | (with_reducible exact Grew.refl _) | (with_reducible assumption) | (with_reducible exact Grew.same_o) | (with_reducible exact Grew.app_o) | (with_reducible refine Grew.ext ?_ _ _) | (with_reducible refine Grew.alloc ?_ _) | ((with_reducible refine Grew.setCell ?_ ?_ _); rotate_left; (focus (dsimp only; first | omega | (simp only [size_ext, World.size_alloc, Array.size_append]; omega)))) | (with_reducible refine Grew.drewN ?_ _) | (with_reducible refine Grew.drew ?_))))) | ((with_reducible refine upon_id ?_); refine upon_fop rfl (by assumption) (by assumption) ?_; intro rr nn hr) | (go_at_call 178; ((with_reducible refine (h _).mono ?_); rintro e w1 ⟨rfl, o1, n1, rfl⟩)))
  go_ret
  exact ⟨rfl, by (show Grew _ _; repeat (first | (with_reducible exact Grew.refl _) | (with_reducible assumption) | (with_reducible exact Grew.same_o) | (with_reducible exact Grew.app_o) | (with_reducible refine Grew.ext ?_ _ _) | (with_reducible refine Grew.alloc ?_ _) | ((with_reducible refine Grew.setCell ?_ ?_ _); rotate_left; (focus (dsimp only; first | omega | (simp only [size_ext, World.size_alloc, Array.size_append]; omega)))) | (with_reducible refine Grew.drewN ?_ _) | (with_reducible refine Grew.drew ?_)))⟩
set_option maxRecDepth 100000 in
set_option maxHeartbeats 1000000 in
/-- equil.greatest, of the second closure. -/
theorem great2_any (D : Value) (ws : List Nat) (p : Nat) (R : Value) (rs : List Int) (w : World) (hD : FS w D ws) (hl : ws.length ≤ 1000000) (hR : IS .i64 w R rs) (hp : ∀ i, w.cell? ⟨p, i, none⟩ = (#[R] : Array Value)[i]?) (kp : p < w.heap.size) (hlr : ws.length ≤ rs.length) (hrb : ∀ k, -50000 ≤ rs.getD k 0 ∧ rs.getD k 0 ≤ 50000) :
   Calls Try.prog 175 #[D, .func (.func 179) #[] #[.pointer (some ⟨p, 0, none⟩)]] w (fun e w' => e = .returned (.tuple #[.int .i64 (bestI (bestTo (fun k => ws.getD k 0) (fun k => fexp (ws.getD k 0) + rs.getD k 0) ws.length)), .bool (bestTo (fun k => ws.getD k 0) (fun k => fexp (ws.getD k 0) + rs.getD k 0) ws.length).isSome]) ∧ ∃ o n, w' = ext w o n) := by
  obtain ⟨X, hX⟩ : ∃ X : Nat → Nat, X = fun k => ws.getD k 0 := ⟨_, rfl⟩
  obtain ⟨e, he⟩ : ∃ e : Nat → Int, e = fun k => fexp (ws.getD k 0) + rs.getD k 0 := ⟨_, rfl⟩
  have heb : ∀ k, -100000 ≤ e k ∧ e k ≤ 100000 := fun k => by rw [he]; have := fexp_range' (ws.getD k 0); have := hrb k; simp only; omega
  rw [← hX, ← he]
  have hsm := best_some heb (X := X)
  have hcl : ∀ (i : Nat) (b : Nat) w', i < ws.length → IsF b (ws.getD i 0) → Grew w w' → Calls Try.prog 179 #[.int .i64 i, .float .f64 b, .pointer (some ⟨p, 0, none⟩)] w' (fun e2 w2 => e2 = .returned (.int .i64 (e i)) ∧ ∃ o n, w2 = ext w' o n) := fun i b w' hi hb g => by rw [he]; exact ecl2_any i b _ p R rs w' hb (hR.grew g) (fun i => (g.cell kp).trans (hp i)) (Nat.lt_of_lt_of_le kp g.below.size) (by omega) hrb
  obtain ⟨a, cap, rfl⟩ := hD.shape
  have HX := hid hX
  have HE := hid heb
  have HS := hid hsm
  clear hX he heb hsm hR hp hrb hlr
  go_enter Try.func175, Try.ntmps175
  go_wp2
  go_loopw [7, 12] (fun m c wr => ∃ (k : Nat), k ≤ ws.length ∧ c = .int .i64 k ∧ m = .int .i64 (bestI (bestTo X e k)) ∧ Grew w wr) (fun _ c _ => ws.length - (intOf c).toNat)
  case atStart => exact ⟨0, Nat.zero_le _, rfl, rfl, Grew.refl _⟩
  case round =>
    obtain ⟨k, hk, rfl, rfl, g⟩ := hrel
    have hDr := hD.grew g
    by_cases hlt : k < ws.length
    · obtain ⟨blk, o, ea, hblk, hc⟩ := hDr.at.2 (by omega)
      subst ea
      obtain ⟨b, hb, hf⟩ := hc k hlt
      have hck := fun w' g => hcl k b w' hlt hf g
      have hXk : X k = ws.getD k 0 := by rw [HX.out]
      clear hc hcl
      have hz : (FloatKind.f64.format.order b 0 != some Ordering.eq) = !(feq0 (X k)) := by
        rw [hXk]; unfold feq0; rw [← hf.order isF_zero]; rfl
      cases hq : feq0 (X k)
      · rw [hq] at hz
        have hst := best_step (e := e) hq (HE.out k).1
        obtain ⟨B, hB⟩ : ∃ B, B = bestI (bestTo X e k) := ⟨_, rfl⟩
        obtain ⟨E, hE⟩ : ∃ E, E = e k := ⟨_, rfl⟩
        rw [← hB, ← hE] at hst
        rw [← hE] at hck
        rw [← hB]
        have HST := hid hst
        clear hst hB hE hq hXk
        go_wp2_with (first | (go_at_call 179; ((with_reducible refine (hck _ (Grew.trans g (by (show Grew _ _; (try simp only [← Array.append_assoc]); repeat (first | (with_reducible exact Grew.same_o) | (with_reducible exact Grew.refl _) | (with_reducible assumption) | (with_reducible refine Grew.alloc ?_ _) | (with_reducible refine Grew.app_r ?_) | ((with_reducible refine Grew.setCell ?_ ?_ _); rotate_left; (focus (dsimp only; first | omega | (simp only [size_ext, World.size_alloc, Array.size_append]; omega)))) | (with_reducible refine Grew.ext ?_ _ _) | (with_reducible refine Grew.drewN ?_ _) | (with_reducible refine Grew.drew ?_)))))).mono ?_); rintro e w1 ⟨rfl, o1, n1, rfl⟩)))
        go_roundw
        case rel => exact ⟨k + 1, hlt, by go_num, by rw [HST.out]; congr 1; split <;> omega, Grew.trans g ⟨_, _, rfl⟩⟩
        case measure => simp [intOf]; omega
      · rw [hq] at hz
        have hst := best_zero (e := e) hq
        have HST := hid hst
        clear hst hq hXk
        go_wp2
        go_roundw
        case rel => exact ⟨k + 1, hlt, by go_num, by rw [HST.out], g⟩
        case measure => simp [intOf]; omega
    · have e1 : k = ws.length := by omega
      subst e1
      have h1 := HS.out ws.length
      go_wp2
      go_ret2
      exact ⟨rfl, g⟩
end Go.Proofs.Ytcmggfpcbijcjaa
end
section
/-
  Plain: columns of a matrix as vectors.
-/
set_option linter.unusedSimpArgs false
set_option linter.unusedVariables false
open Go Go.RowKit Sedge
namespace Go.Proofs.Ytcmggfpcbijcjaa
theorem colv_right {m : MatM} (hm : m.good = true) {j : Nat} (hj : (j : Int) < m.cols) (h0 : 0 < m.rows) : (colV m j).right = true := by
  have hn := MatM.good_n hm
  have hp := MatM.good_place hm (i := (m.rows - 1).toNat) (j := j) (by omega) hj
  have hp0 := MatM.good_place hm (i := 0) (j := j) (by omega) hj
  unfold VecM.right colV fitsB
  simp only [h0, if_true, Bool.and_eq_true, Bool.or_eq_true, decide_eq_true_eq]
  rw [Int.toNat_of_nonneg (by omega)] at hp
  simp only [Int.natCast_zero, Int.add_zero] at hp0
  refine ⟨by omega, .inr ⟨by omega, by omega⟩⟩
theorem colv_rightA {m : MatM} (hm : m.good = true) {j : Nat} (hj : (j : Int) < m.cols) : (colV m j).right = true := by
  by_cases h0 : 0 < m.rows
  · exact colv_right hm hj h0
  · have hn := MatM.good_n hm
    unfold VecM.right colV
    simp only [h0, if_false, Bool.and_eq_true, Bool.or_eq_true, decide_eq_true_eq]
    omega
theorem colv_wf {m : MatM} (hm : m.good = true) (hl : m.ws.length ≤ 1000000) (hw : m.wf) {j : Nat} (hj : (j : Int) < m.cols) : (colV m j).wf := by
  obtain ⟨i1, i2, i3, i4⟩ := hw
  by_cases h0 : 0 < m.rows
  · have hp := MatM.good_place hm (i := 0) (j := j) (by simpa using h0) hj
    simp only [Int.natCast_zero, Int.add_zero] at hp
    unfold VecM.wf colV
    simp only [h0, if_true]
    exact ⟨by unfold I64; omega, i2, by unfold I64; omega⟩
  · unfold VecM.wf colV
    simp only [h0, if_false]
    exact ⟨i1, i2, by unfold I64; omega⟩
theorem colv_place {m : MatM} (h0 : 0 < m.rows) (j r : Nat) : (colV m j).place r = m.place r j := by
  unfold colV VecM.place MatM.place; simp only [h0, if_true]; congr 1; omega
end Go.Proofs.Ytcmggfpcbijcjaa
end
section
/-
  Contract: equil.Factors.
-/
set_option linter.unusedSimpArgs false
set_option linter.unusedVariables false
open Go Go.RowKit Sedge
namespace Go.Proofs.Ytcmggfpcbijcjaa
def rowB (M : Nat → Nat → Nat) (C i : Nat) : Option Int := bestTo (fun j => M i j) (fun j => fexp (M i j)) C
def rowsTo' (M : Nat → Nat → Nat) (C n : Nat) : List Int := (List.range n).map fun i => -(bestI (rowB M C i))
def colB (M : Nat → Nat → Nat) (R : Nat) (rs : List Int) (j : Nat) : Option Int := bestTo (fun i => M i j) (fun i => fexp (M i j) + rs.getD i 0) R
def colsTo' (M : Nat → Nat → Nat) (R : Nat) (rs : List Int) (n : Nat) : List Int := (List.range n).map fun j => -(bestI (colB M R rs j))
theorem rowsTo'_succ (M : Nat → Nat → Nat) (C n : Nat) : rowsTo' M C (n + 1) = rowsTo' M C n ++ [-(bestI (rowB M C n))] := by unfold rowsTo'; rw [List.range_succ, List.map_append]; rfl
theorem colsTo'_succ (M : Nat → Nat → Nat) (R : Nat) (rs : List Int) (n : Nat) : colsTo' M R rs (n + 1) = colsTo' M R rs n ++ [-(bestI (colB M R rs n))] := by unfold colsTo'; rw [List.range_succ, List.map_append]; rfl
theorem rowsTo'_length (M : Nat → Nat → Nat) (C n : Nat) : (rowsTo' M C n).length = n := by simp [rowsTo']
theorem colsTo'_length (M : Nat → Nat → Nat) (R : Nat) (rs : List Int) (n : Nat) : (colsTo' M R rs n).length = n := by simp [colsTo']
theorem rowB_in {M : Nat → Nat → Nat} {C i : Nat} {b : Int} (h : rowB M C i = some b) : -1074 ≤ b ∧ b ≤ 1023 := by
  have : ∀ n b, bestTo (fun j => M i j) (fun j => fexp (M i j)) n = some b → -1074 ≤ b ∧ b ≤ 1023 := fun n => by
    induction n with
    | zero => intro b hb; cases hb
    | succ n ih =>
      intro b hb
      unfold bestTo at hb
      split at hb
      · exact ih b hb
      · have h1 := fexp_range' (M i n)
        cases hq : bestTo (fun j => M i j) (fun j => fexp (M i j)) n with
        | none => rw [hq] at hb; simp at hb; omega
        | some c => have h2 := ih c hq; rw [hq] at hb; simp at hb; omega
  exact this C b h
theorem rowsTo'_in {M : Nat → Nat → Nat} {C n : Nat} (h : ∀ k, k < n → rowB M C k ≠ none) (k : Nat) : -1023 ≤ (rowsTo' M C n).getD k 0 ∧ (rowsTo' M C n).getD k 0 ≤ 1074 := by
  by_cases hk : k < n
  · have e : (rowsTo' M C n).getD k 0 = -(bestI (rowB M C k)) := by
      unfold rowsTo'
      rw [List.getD_eq_getElem?_getD, List.getElem?_map, List.getElem?_range hk]; rfl
    rw [e]
    cases hq : rowB M C k with
    | none => exact absurd hq (h k hk)
    | some b => have := rowB_in hq; show -1023 ≤ -b ∧ -b ≤ 1074; omega
  · rw [List.getD_eq_getElem?_getD, List.getElem?_eq_none (by rw [rowsTo'_length]; omega)]; decide
/-- What comes out. -/
def FactsOut (M : Nat → Nat → Nat) (R C : Nat) (at' : Int) (rs cs : List Int) : Prop :=
  (∃ i, i < R ∧ at' = i + 1 ∧ rowB M C i = none ∧ (∀ k, k < i → rowB M C k ≠ none) ∧ rs = [] ∧ cs = []) ∨
  ((∀ k, k < R → rowB M C k ≠ none) ∧ ∃ j, j < C ∧ at' = R + j + 1 ∧ colB M R (rowsTo' M C R) j = none ∧ (∀ k, k < j → colB M R (rowsTo' M C R) k ≠ none) ∧ rs = [] ∧ cs = []) ∨
  ((∀ k, k < R → rowB M C k ≠ none) ∧ (∀ k, k < C → colB M R (rowsTo' M C R) k ≠ none) ∧ at' = 0 ∧ rs = rowsTo' M C R ∧ cs = colsTo' M R (rowsTo' M C R) C)
theorem FactsOut.unique {M : Nat → Nat → Nat} {R C : Nat} {a b : Int} {r c r' c' : List Int} (h : FactsOut M R C a r c) (k : FactsOut M R C b r' c') : a = b ∧ r = r' ∧ c = c' := by
  rcases h with ⟨i, h1, h2, h3, h4, h5, h6⟩ | ⟨h0, j, h1, h2, h3, h4, h5, h6⟩ | ⟨h0, h1, h2, h3, h4⟩
  · rcases k with ⟨i', k1, k2, k3, k4, k5, k6⟩ | ⟨k0, _⟩ | ⟨k0, _⟩
    · have e : i = i' := by
        rcases Nat.lt_trichotomy i i' with q | q | q
        · exact absurd h3 (k4 i q)
        · exact q
        · exact absurd k3 (h4 i' q)
      subst e
      exact ⟨by rw [h2, k2], by rw [h5, k5], by rw [h6, k6]⟩
    · exact absurd h3 (k0 i h1)
    · exact absurd h3 (k0 i h1)
  · rcases k with ⟨i', k1, k2, k3, k4, k5, k6⟩ | ⟨k0, j', k1, k2, k3, k4, k5, k6⟩ | ⟨k0, k1, _⟩
    · exact absurd k3 (h0 i' k1)
    · have e : j = j' := by
        rcases Nat.lt_trichotomy j j' with q | q | q
        · exact absurd h3 (k4 j q)
        · exact q
        · exact absurd k3 (h4 j' q)
      subst e
      exact ⟨by rw [h2, k2], by rw [h5, k5], by rw [h6, k6]⟩
    · exact absurd h3 (k1 j h1)
  · rcases k with ⟨i', k1, k2, k3, k4, k5, k6⟩ | ⟨k0, j', k1, k2, k3, k4, k5, k6⟩ | ⟨k0, k1, k2, k3, k4⟩
    · exact absurd k3 (h0 i' k1)
    · exact absurd k3 (h1 j' k1)
    · exact ⟨by rw [h2, k2], by rw [h3, k3], by rw [h4, k4]⟩
def errF (a : Int) : Int := if a = 0 then 0 else 4
theorem FactsOut.err {M : Nat → Nat → Nat} {R C : Nat} {a : Int} {r c : List Int} (h : FactsOut M R C a r c) : 0 ≤ a := by
  rcases h with ⟨i, _, h2, _⟩ | ⟨_, j, _, h2, _⟩ | ⟨_, _, h2, _⟩ <;> omega
theorem Box.set1 {w : World} {p : Nat} {cs : Array Value} (h : Box w p cs) (hs : cs.size = 1) (x : Value) : w.setCell ⟨p, 0, none⟩ x = upd w p #[x] := by
  have e : w = upd w p cs := h.self.symm
  rw [e, setCell_upd, upd_upd]
  congr 1
  match cs, hs with
  | ⟨[a]⟩, _ => rfl
theorem Box.set1_ext {w : World} {p : Nat} {cs : Array Value} (h : Box w p cs) (hs : cs.size = 1) (x : Value) (o : Array Obj) (n : Nat) : Sedge.ext (w.setCell ⟨p, 0, none⟩ x) o n = upd (Sedge.ext w o n) p #[x] := by
  rw [h.set1 hs, upd_ext h.lt]
theorem OwnI.upd_ne {w : World} {B : Nat} {v : Value} {zs : List Int} (h : OwnI w B v zs) {p : Nat} (hn : v.ownBlock ≠ some p) (cs : Array Value) : OwnI (upd w p cs) B v zs := by
  obtain ⟨h0, h1⟩ := h
  refine ⟨h0, ?_⟩
  rcases h1 with h1 | ⟨gg, cap, cur, rfl, hB, hh, r⟩
  · exact .inl h1
  · exact .inr ⟨gg, cap, cur, rfl, hB, by rw [block_upd_ne (fun e => hn (by rw [← e]; rfl))]; exact hh, r⟩
theorem _root_.Sedge.OwnI.same {w w' : World} {B : Nat} {v : Value} {zs : List Int} (h : OwnI w B v zs) (hs : ∀ k, v.ownBlock = some k → w'.heap[k]? = w.heap[k]?) : OwnI w' B v zs := by
  obtain ⟨h0, h1⟩ := h
  refine ⟨h0, ?_⟩
  rcases h1 with h1 | ⟨gg, cap, cur, rfl, hB, hh, r⟩
  · exact .inl h1
  · exact .inr ⟨gg, cap, cur, rfl, hB, by rw [hs gg rfl]; exact hh, r⟩
def badE (g : Bool) : Int := if g then 8 else 1
set_option maxRecDepth 100000 in
set_option maxHeartbeats 1000000 in
/-- equil.Factors, of what is no matrix, or not finite. -/
theorem efact_bad (x : MatM) (D : Value) (w : World) (hD : FS w D x.ws) (hwf : x.wf) (hl : x.ws.length ≤ 1000000) (hr : x.rows ≤ 1000) (hc : x.cols ≤ 1000) (hb : x.good = false ∨ finL (numL x) = false) :
    Calls Try.prog 102 #[.agg #[D, .int .i64 x.off, .int .i64 x.rows, .int .i64 x.cols, .int .i64 x.ld]] w (fun e w' => e = .returned (.tuple #[.slice none 0 0, .slice none 0 0, .int .i64 0, .int .i64 (badE x.good)]) ∧ ∃ o n, w' = ext w o n) := by
  have hgd : ∀ w', FS w' D x.ws → Calls Try.prog 130 #[.agg #[D, .int .i64 x.off, .int .i64 x.rows, .int .i64 x.cols, .int .i64 x.ld]] w' (fun e w2 => e = .returned (.bool x.good) ∧ ∃ o n, w2 = ext w' o n) := fun w' h => good_any x D w' h hwf
  have hfi : ∀ w', FS w' D x.ws → Calls Try.prog 174 #[.agg #[D, .int .i64 x.off, .int .i64 x.rows, .int .i64 x.cols, .int .i64 x.ld]] w' (fun e w2 => e = .returned (.bool (x.good && finL (numL x))) ∧ ∃ o n, w2 = ext w' o n) := fun w' h => mfin_any x D w' h hwf hl hr hc
  cases hg : x.good
  · rw [hg] at hgd
    rw [show badE false = 1 from rfl]
    clear hwf hb hfi hg
    go_enter Try.func102, Try.ntmps102
    refine seq_stop ?_
    go_wp2
    refine stop_go (fun W hW => ?_)
    have s1 : w.heap.size < W.heap.size := by rw [hW]; simp only [World.size_alloc]; omega
    have b1 : ∀ i, W.cell? ⟨w.heap.size, i, none⟩ = (#[D, .int .i64 x.off, .int .i64 x.rows, .int .i64 x.cols, .int .i64 x.ld] : Array Value)[i]? := by intro i; rw [hW]; go_simp
    have X1 : Box W (w.heap.size) #[D, .int .i64 x.off, .int .i64 x.rows, .int .i64 x.cols, .int .i64 x.ld] := by rw [hW]; refine Box.grew ?_ ((Grew.refl _).alloc _); exact Box.new' (by first | rfl | (simp only [World.size_alloc]; done) | (simp only [World.size_alloc]; omega))
    have f1 : ∀ i, W.frozen? ⟨w.heap.size, i, none⟩ = false := by intro i; rw [hW]; go_simp
    have s2 : w.heap.size + 1 < W.heap.size := by rw [hW]; simp only [World.size_alloc]; omega
    have b2 : ∀ i, W.cell? ⟨w.heap.size + 1, i, none⟩ = (#[.slice none 0 0] : Array Value)[i]? := by intro i; rw [hW]; go_simp
    have X2 : Box W (w.heap.size + 1) #[.slice none 0 0] := by rw [hW]; exact Box.new' (by first | rfl | (simp only [World.size_alloc]; done) | (simp only [World.size_alloc]; omega))
    have f2 : ∀ i, W.frozen? ⟨w.heap.size + 1, i, none⟩ = false := by intro i; rw [hW]; go_simp
    have g0 : Grew w W := by rw [hW]; exact ((Grew.refl _).alloc _).alloc _
    clear hW
    have hDW := hD.grew g0
    go_wp2_with (first | (go_at_call 130; ((with_reducible refine (hgd _ ?_).mono ?_); (focus (first | (with_reducible assumption) | (with_reducible refine FS.ext ?_ _ _; with_reducible assumption) | (with_reducible refine IS.ext ?_ _ _; with_reducible assumption) | (refine hDu _ ?_; with_reducible assumption) | (refine hOu _ ?_; with_reducible assumption) | (refine hDa _ ?_; with_reducible assumption) | (refine hDb _ ?_; with_reducible assumption) | (refine hDc _ ?_; with_reducible assumption) | (refine hDd _ ?_; with_reducible assumption) | (refine FW.fs ?_ (by omega) _; with_reducible assumption) | (refine WS.fs ?_; with_reducible assumption) | (refine FW.fs ?_ (by omega) _; assumption) | omega | assumption)); rintro e w1 ⟨rfl, o1, n1, rfl⟩)))
    refine bodyPost_ret (v := .tuple #[.slice none 0 0, .slice none 0 0, .int .i64 0, .int .i64 1]) (by simp [results, Try.results102, go_sem, *]) rfl ?_
    exact ⟨rfl, by (show Grew _ _; repeat (first | (with_reducible exact Grew.refl _) | (with_reducible assumption) | (with_reducible exact Grew.same_o) | (with_reducible exact Grew.app_o) | (with_reducible refine Grew.ext ?_ _ _) | (with_reducible refine Grew.alloc ?_ _) | ((with_reducible refine Grew.setCell ?_ ?_ _); rotate_left; (focus (dsimp only; first | omega | (simp only [size_ext, World.size_alloc, Array.size_append]; omega)))) | (with_reducible refine Grew.drewN ?_ _) | (with_reducible refine Grew.drew ?_)))⟩
  · have hff : finL (numL x) = false := by rcases hb with h | h; rw [hg] at h; cases h; exact h
    rw [hg] at hgd
    rw [hg, hff] at hfi
    rw [show badE true = 8 from rfl]
    clear hwf hb hg hff
    go_enter Try.func102, Try.ntmps102
    refine seq_stop ?_
    go_wp2
    refine stop_go (fun W hW => ?_)
    have s1 : w.heap.size < W.heap.size := by rw [hW]; simp only [World.size_alloc]; omega
    have b1 : ∀ i, W.cell? ⟨w.heap.size, i, none⟩ = (#[D, .int .i64 x.off, .int .i64 x.rows, .int .i64 x.cols, .int .i64 x.ld] : Array Value)[i]? := by intro i; rw [hW]; go_simp
    have X1 : Box W (w.heap.size) #[D, .int .i64 x.off, .int .i64 x.rows, .int .i64 x.cols, .int .i64 x.ld] := by rw [hW]; refine Box.grew ?_ ((Grew.refl _).alloc _); exact Box.new' (by first | rfl | (simp only [World.size_alloc]; done) | (simp only [World.size_alloc]; omega))
    have f1 : ∀ i, W.frozen? ⟨w.heap.size, i, none⟩ = false := by intro i; rw [hW]; go_simp
    have s2 : w.heap.size + 1 < W.heap.size := by rw [hW]; simp only [World.size_alloc]; omega
    have b2 : ∀ i, W.cell? ⟨w.heap.size + 1, i, none⟩ = (#[.slice none 0 0] : Array Value)[i]? := by intro i; rw [hW]; go_simp
    have X2 : Box W (w.heap.size + 1) #[.slice none 0 0] := by rw [hW]; exact Box.new' (by first | rfl | (simp only [World.size_alloc]; done) | (simp only [World.size_alloc]; omega))
    have f2 : ∀ i, W.frozen? ⟨w.heap.size + 1, i, none⟩ = false := by intro i; rw [hW]; go_simp
    have g0 : Grew w W := by rw [hW]; exact ((Grew.refl _).alloc _).alloc _
    clear hW
    have hDW := hD.grew g0
    go_wp2_with (first | (go_at_call 130; ((with_reducible refine (hgd _ ?_).mono ?_); (focus (first | (with_reducible assumption) | (with_reducible refine FS.ext ?_ _ _; with_reducible assumption) | (with_reducible refine IS.ext ?_ _ _; with_reducible assumption) | (refine hDu _ ?_; with_reducible assumption) | (refine hOu _ ?_; with_reducible assumption) | (refine hDa _ ?_; with_reducible assumption) | (refine hDb _ ?_; with_reducible assumption) | (refine hDc _ ?_; with_reducible assumption) | (refine hDd _ ?_; with_reducible assumption) | (refine FW.fs ?_ (by omega) _; with_reducible assumption) | (refine WS.fs ?_; with_reducible assumption) | (refine FW.fs ?_ (by omega) _; assumption) | omega | assumption)); rintro e w1 ⟨rfl, o1, n1, rfl⟩)) | (go_at_call 174; ((with_reducible refine (hfi _ ?_).mono ?_); (focus (first | (with_reducible assumption) | (with_reducible refine FS.ext ?_ _ _; with_reducible assumption) | (with_reducible refine IS.ext ?_ _ _; with_reducible assumption) | (refine hDu _ ?_; with_reducible assumption) | (refine hOu _ ?_; with_reducible assumption) | (refine hDa _ ?_; with_reducible assumption) | (refine hDb _ ?_; with_reducible assumption) | (refine hDc _ ?_; with_reducible assumption) | (refine hDd _ ?_; with_reducible assumption) | (refine FW.fs ?_ (by omega) _; with_reducible assumption) | (refine WS.fs ?_; with_reducible assumption) | (refine FW.fs ?_ (by omega) _; assumption) | omega | assumption)); rintro e w1 ⟨rfl, o1, n1, rfl⟩)))
    refine bodyPost_ret (v := .tuple #[.slice none 0 0, .slice none 0 0, .int .i64 0, .int .i64 8]) (by simp [results, Try.results102, go_sem, *]) rfl ?_
    exact ⟨rfl, by (show Grew _ _; repeat (first | (with_reducible exact Grew.refl _) | (with_reducible assumption) | (with_reducible exact Grew.same_o) | (with_reducible exact Grew.app_o) | (with_reducible refine Grew.ext ?_ _ _) | (with_reducible refine Grew.alloc ?_ _) | ((with_reducible refine Grew.setCell ?_ ?_ _); rotate_left; (focus (dsimp only; first | omega | (simp only [size_ext, World.size_alloc, Array.size_append]; omega)))) | (with_reducible refine Grew.drewN ?_ _) | (with_reducible refine Grew.drew ?_)))⟩
theorem owns_shape {w : World} {B n : Nat} {e : TypeId} {v : Value} {xs : List Value} (h : w.ownsRow B e 1 v n xs) : ∃ a l c, v = .slice a l c := by
  obtain ⟨_, h1⟩ := h
  rcases h1 with ⟨rfl, _⟩ | ⟨g, cap, cur, rfl, _⟩
  · exact ⟨_, _, _, rfl⟩
  · exact ⟨_, _, _, rfl⟩
theorem block_ext' {w : World} {o : Array Obj} {n k : Nat} (h : k < w.heap.size) : (Sedge.ext w o n).heap[k]? = w.heap[k]? := (show Grew w (Sedge.ext w o n) from ⟨_, _, rfl⟩).below.block k h
theorem is_nil (w : World) : IS .i64 w (.slice none 0 0) [] := ⟨by simp, none, 0, rfl, fun i hi => by simp at hi⟩
theorem errF_pos {a : Int} (h : 0 < a) : errF a = 4 := by unfold errF; rw [if_neg (by omega)]
theorem errF_zero : errF 0 = 0 := rfl
set_option maxRecDepth 100000 in
set_option maxHeartbeats 4000000 in
/-- equil.Factors, of a finite matrix. -/
theorem efact_ok (x : MatM) (D : Value) (R C : Nat) (w : World) (hD : FS w D x.ws) (hx : x.good = true) (hwf : x.wf) (hl : x.ws.length ≤ 1000000) (hR : x.rows = R) (hC : x.cols = C) (hr : R ≤ 1000) (hc : C ≤ 1000) (hf : finL (numL x) = true) :
    Calls Try.prog 102 #[.agg #[D, .int .i64 x.off, .int .i64 R, .int .i64 C, .int .i64 x.ld]] w (fun e w' => ∃ v1 v2 a rs cs, e = .returned (.tuple #[v1, v2, .int .i64 a, .int .i64 (errF a)]) ∧ FactsOut x.num R C a rs cs ∧ IS .i64 w' v1 rs ∧ IS .i64 w' v2 cs ∧ ∃ o n, w' = ext w o n) := by
  have hgd : ∀ w', FS w' D x.ws → Calls Try.prog 130 #[.agg #[D, .int .i64 x.off, .int .i64 R, .int .i64 C, .int .i64 x.ld]] w' (fun e w2 => e = .returned (.bool true) ∧ ∃ o n, w2 = ext w' o n) := fun w' h => by
    have := good_any x D w' h hwf; rw [hx, hR, hC] at this; exact this
  have hfi : ∀ w', FS w' D x.ws → Calls Try.prog 174 #[.agg #[D, .int .i64 x.off, .int .i64 R, .int .i64 C, .int .i64 x.ld]] w' (fun e w2 => e = .returned (.bool true) ∧ ∃ o n, w2 = ext w' o n) := fun w' h => by
    have := mfin_any x D w' h hwf hl (by omega) (by omega); rw [hx, hf, hR, hC] at this; exact this
  have hrow : ∀ (i : Nat) w', i < R → FS w' D x.ws → Calls Try.prog 132 #[.agg #[D, .int .i64 x.off, .int .i64 R, .int .i64 C, .int .i64 x.ld], .int .i64 i] w' (fun e w2 => e = .returned (.agg #[D, .int .i64 (rowV x i).off, .int .i64 C, .int .i64 x.ld]) ∧ ∃ o n, w2 = ext w' o n) := fun i w' hi h => by
    have := row_any x D i w' h hx hwf (by omega); rw [hR, hC] at this; exact this
  have hrl : ∀ (i : Nat) w', i < R → FS w' D x.ws → Calls Try.prog 176 #[.agg #[D, .int .i64 (rowV x i).off, .int .i64 C, .int .i64 x.ld]] w' (fun e w2 => ∃ v, e = .returned v ∧ FS w2 v (rowV x i).list ∧ ∃ o n, w2 = ext w' o n) := fun i w' hi h => by
    have := elist_any (rowV x i) D w' h (rowV_right hx (by omega)) (rowV_wf hx hwf (by omega) hl) hl
    rw [show (rowV x i).n = (C : Int) from hC] at this
    exact this
  have rowlen : ∀ i, (rowV x i).list.length = C := fun i => by rw [VecM.list_length, show (rowV x i).n = (C : Int) from hC]; simp
  have rownum : ∀ i j, j < C → (rowV x i).list.getD j 0 = x.num i j := fun i j hj => by
    rw [VecM.list_get (by rw [show (rowV x i).n = (C : Int) from hC]; omega)]
    unfold VecM.num MatM.num
    rw [rowV_place (by omega)]; rfl
  have hgr : ∀ (i : Nat) v w', FS w' v (rowV x i).list → Calls Try.prog 175 #[v, .func (.func 177) #[] #[]] w' (fun e w2 => e = .returned (.tuple #[.int .i64 (bestI (rowB x.num C i)), .bool (rowB x.num C i).isSome]) ∧ ∃ o n, w2 = ext w' o n) := fun i v w' h => by
    have := great1_any v _ w' h (by rw [rowlen]; omega)
    rw [rowlen, bestTo_congr (Y := fun j => x.num i j) (f := fun j => fexp (x.num i j)) C (fun k hk => ⟨rownum i k hk, by rw [rownum i k hk]⟩)] at this
    exact this
  have hcol : ∀ (j : Nat) w', j < C → FS w' D x.ws → Calls Try.prog 149 #[.agg #[D, .int .i64 x.off, .int .i64 R, .int .i64 C, .int .i64 x.ld], .int .i64 j] w' (fun e w2 => e = .returned (.agg #[D, .int .i64 (colV x j).off, .int .i64 R, .int .i64 1]) ∧ ∃ o n, w2 = ext w' o n) := fun j w' hj h => by
    have := col_any x D j w' h hx hwf (by omega); rw [hR, hC] at this; exact this
  have hclL : ∀ (j : Nat) w', j < C → FS w' D x.ws → Calls Try.prog 176 #[.agg #[D, .int .i64 (colV x j).off, .int .i64 R, .int .i64 1]] w' (fun e w2 => ∃ v, e = .returned v ∧ FS w2 v (colV x j).list ∧ ∃ o n, w2 = ext w' o n) := fun j w' hj h => by
    have := elist_any (colV x j) D w' h (colv_rightA hx (by omega)) (colv_wf hx hl hwf (by omega)) hl
    rw [show (colV x j).n = (R : Int) from hR] at this
    exact this
  have collen : ∀ j, (colV x j).list.length = R := fun j => by rw [VecM.list_length, show (colV x j).n = (R : Int) from hR]; simp
  have colnum : ∀ j i, i < R → (colV x j).list.getD i 0 = x.num i j := fun j i hi => by
    rw [VecM.list_get (by rw [show (colV x j).n = (R : Int) from hR]; omega)]
    unfold VecM.num MatM.num
    rw [colv_place (by omega)]; rfl
  have hgc : ∀ (j : Nat) v w' p Rv rs, FS w' v (colV x j).list → IS .i64 w' Rv rs → (∀ i, w'.cell? ⟨p, i, none⟩ = (#[Rv] : Array Value)[i]?) → p < w'.heap.size → rs.length = R → (∀ k, -50000 ≤ rs.getD k 0 ∧ rs.getD k 0 ≤ 50000) → Calls Try.prog 175 #[v, .func (.func 179) #[] #[.pointer (some ⟨p, 0, none⟩)]] w' (fun e w2 => e = .returned (.tuple #[.int .i64 (bestI (colB x.num R rs j)), .bool (colB x.num R rs j).isSome]) ∧ ∃ o n, w2 = ext w' o n) := fun j v w' p Rv rs h h2 h3 h4 h5 h6 => by
    have := great2_any v _ p Rv rs w' h (by rw [collen]; omega) h2 h3 h4 (by rw [collen]; omega) h6
    rw [collen, bestTo_congr (Y := fun i => x.num i j) (f := fun i => fexp (x.num i j) + rs.getD i 0) R (fun k hk => ⟨colnum j k hk, by rw [colnum j k hk]⟩)] at this
    exact this
  obtain ⟨M, hM⟩ : ∃ M, M = x.num := ⟨_, rfl⟩
  rw [← hM] at hgr hgc ⊢
  clear hx hwf hR hC hf rowlen rownum collen colnum hM
  go_enter Try.func102, Try.ntmps102
  refine seq_stop ?_
  go_wp2
  refine stop_go (fun W hW => ?_)
  have s1 : w.heap.size < W.heap.size := by rw [hW]; simp only [World.size_alloc]; omega
  have b1 : ∀ i, W.cell? ⟨w.heap.size, i, none⟩ = (#[D, .int .i64 x.off, .int .i64 R, .int .i64 C, .int .i64 x.ld] : Array Value)[i]? := by intro i; rw [hW]; go_simp
  have X1 : Box W (w.heap.size) #[D, .int .i64 x.off, .int .i64 R, .int .i64 C, .int .i64 x.ld] := by rw [hW]; refine Box.grew ?_ ((Grew.refl _).alloc _); exact Box.new' (by first | rfl | (simp only [World.size_alloc]; done) | (simp only [World.size_alloc]; omega))
  have f1 : ∀ i, W.frozen? ⟨w.heap.size, i, none⟩ = false := by intro i; rw [hW]; go_simp
  have s2 : w.heap.size + 1 < W.heap.size := by rw [hW]; simp only [World.size_alloc]; omega
  have b2 : ∀ i, W.cell? ⟨w.heap.size + 1, i, none⟩ = (#[.slice none 0 0] : Array Value)[i]? := by intro i; rw [hW]; go_simp
  have X2 : Box W (w.heap.size + 1) #[.slice none 0 0] := by rw [hW]; exact Box.new' (by first | rfl | (simp only [World.size_alloc]; done) | (simp only [World.size_alloc]; omega))
  have f2 : ∀ i, W.frozen? ⟨w.heap.size + 1, i, none⟩ = false := by intro i; rw [hW]; go_simp
  have g0 : Grew w W := by rw [hW]; exact ((Grew.refl _).alloc _).alloc _
  clear hW
  have hDW := hD.grew g0
  go_upto_region 5 with (first | (go_at_call 130; ((with_reducible refine (hgd _ ?_).mono ?_); (focus (first | (with_reducible assumption) | (with_reducible refine FS.ext ?_ _ _; with_reducible assumption) | (with_reducible refine IS.ext ?_ _ _; with_reducible assumption) | (refine hDu _ ?_; with_reducible assumption) | (refine hOu _ ?_; with_reducible assumption) | (refine hDa _ ?_; with_reducible assumption) | (refine hDb _ ?_; with_reducible assumption) | (refine hDc _ ?_; with_reducible assumption) | (refine hDd _ ?_; with_reducible assumption) | (refine FW.fs ?_ (by omega) _; with_reducible assumption) | (refine WS.fs ?_; with_reducible assumption) | (refine FW.fs ?_ (by omega) _; assumption) | omega | assumption)); rintro e w1 ⟨rfl, o1, n1, rfl⟩)) | (go_at_call 174; ((with_reducible refine (hfi _ ?_).mono ?_); (focus (first | (with_reducible assumption) | (with_reducible refine FS.ext ?_ _ _; with_reducible assumption) | (with_reducible refine IS.ext ?_ _ _; with_reducible assumption) | (refine hDu _ ?_; with_reducible assumption) | (refine hOu _ ?_; with_reducible assumption) | (refine hDa _ ?_; with_reducible assumption) | (refine hDb _ ?_; with_reducible assumption) | (refine hDc _ ?_; with_reducible assumption) | (refine hDd _ ?_; with_reducible assumption) | (refine FW.fs ?_ (by omega) _; with_reducible assumption) | (refine WS.fs ?_; with_reducible assumption) | (refine FW.fs ?_ (by omega) _; assumption) | omega | assumption)); rintro e w1 ⟨rfl, o1, n1, rfl⟩)))
  refine name_any (fun V hV => ?_)
  obtain ⟨p1, hp1⟩ : ∃ p, p = w.heap.size := ⟨_, rfl⟩
  obtain ⟨p2, hp2⟩ : ∃ p, p = w.heap.size + 1 := ⟨_, rfl⟩
  have gWV : Grew W V := by rw [← hV]; (show Grew _ _; (try simp only [← Array.append_assoc]); repeat (first | (with_reducible exact Grew.same_o) | (with_reducible exact Grew.refl _) | (with_reducible assumption) | (with_reducible refine Grew.alloc ?_ _) | (with_reducible refine Grew.app_r ?_) | ((with_reducible refine Grew.setCell ?_ ?_ _); rotate_left; (focus (dsimp only; first | omega | (simp only [size_ext, World.size_alloc, Array.size_append]; omega)))) | (with_reducible refine Grew.ext ?_ _ _) | (with_reducible refine Grew.drewN ?_ _) | (with_reducible refine Grew.drew ?_)))
  have gV : Grew w V := Grew.trans g0 gWV
  have Y1 : Box V p1 #[D, .int .i64 x.off, .int .i64 R, .int .i64 C, .int .i64 x.ld] := by rw [hp1]; exact X1.grew gWV
  have Y2 : Box V p2 #[.slice none 0 0] := by rw [hp2]; exact X2.grew gWV
  have n12 : p1 ≠ p2 := by omega
  have z1 : w.heap.size ≤ p1 := by omega
  have z2 : w.heap.size ≤ p2 := by omega
  have hDV := hD.grew gV
  simp only [← hp2]
  simp only [← hp1]
  clear hV hgd hfi X1 X2 b1 b2 s1 s2 hDW gWV hp1 hp2 g0
  have N0 : IS .i64 V (.slice none 0 0) [] := ⟨by simp, none, 0, rfl, fun i hi => by simp at hi⟩
  have HM1 := hid hcol
  have HM2 := hid hclL
  have HM3 := hid hgc
  have t1 := Y1.cell
  have l1 := Y1.lt
  clear hcol hclL hgc
  go_wp2
  clear t1 l1
  go_loopw [3, 22] (fun u c wr => ∃ (i : Nat) (v : Value), i ≤ R ∧ u = .slice none 0 0 ∧ c = .int .i64 i ∧ Grew w wr ∧ Box wr p1 #[D, .int .i64 x.off, .int .i64 R, .int .i64 C, .int .i64 x.ld] ∧ Box wr p2 #[v] ∧ OwnI wr w.heap.size v (rowsTo' M C i) ∧ (∀ k, k < i → rowB M C k ≠ none) ∧ (∀ k, v.ownBlock = some k → k ∉ [p1, p2])) (fun _ c _ => R - (intOf c).toNat)
  case atStart => exact ⟨0, _, Nat.zero_le _, rfl, rfl, gV, Y1, Y2, OwnI.nil _ _, fun k hk => absurd hk (Nat.not_lt_zero k), fun k hk => by simp [Value.ownBlock] at hk⟩
  case round =>
    clear Y1 Y2 gV hDV N0
    obtain ⟨i, v, hi, rfl, rfl, gr, B1, B2, hown, hall, nv⟩ := hrel
    have t1 := B1.cell
    have t2 := B2.cell
    have f2 := B2.frozen
    have l1 := B1.lt
    have l2 := B2.lt
    have hDr := hD.grew gr
    by_cases hlt : i < R
    · have hown' : ∀ w', Grew wr w' → w'.ownsRow w.heap.size 3 1 v ((rowsTo' M C i).map (Value.int .i64)).length ((rowsTo' M C i).map (Value.int .i64)) := fun w' g => by rw [List.length_map]; exact hown.grew g
      have lu : ((rowsTo' M C i).map (Value.int .i64)).length < 17592186044415 := by rw [List.length_map, rowsTo'_length]; omega
      have hgi := hgr i
      cases hq : rowB M C i with
      | none =>
        rw [hq] at hgi
        simp only [bestI, Option.isSome] at hgi
        have e4 : errF ((i : Int) + 1) = 4 := errF_pos (by omega)
        have rw1 : IntKind.i64.wrap ((i : Int) + 1) = (i : Int) + 1 := IntWalk.i64_in _ (by omega)
        have HQ := hid hq
        have HA := hid hall
        have hof : FactsOut M R C ((i : Int) + 1) [] [] := .inl ⟨i, hlt, rfl, hq, hall, rfl, rfl⟩
        have HOF := hid hof
        have E4 := hid e4
        clear hq hall hof e4 hgr
        go_wp2_with (first | (go_at_call 132; ((with_reducible refine (hrow i _ hlt ?_).mono ?_); (focus (first | (with_reducible assumption) | (with_reducible refine FS.ext ?_ _ _; with_reducible assumption) | (with_reducible refine IS.ext ?_ _ _; with_reducible assumption) | (refine hDu _ ?_; with_reducible assumption) | (refine hOu _ ?_; with_reducible assumption) | (refine hDa _ ?_; with_reducible assumption) | (refine hDb _ ?_; with_reducible assumption) | (refine hDc _ ?_; with_reducible assumption) | (refine hDd _ ?_; with_reducible assumption) | (refine FW.fs ?_ (by omega) _; with_reducible assumption) | (refine WS.fs ?_; with_reducible assumption) | (refine FW.fs ?_ (by omega) _; assumption) | omega | assumption)); rintro e w1 ⟨rfl, o1, n1, rfl⟩)) | (go_at_call 176; ((with_reducible refine (hrl i _ hlt ?_).mono ?_); (focus (first | (with_reducible assumption) | (with_reducible refine FS.ext ?_ _ _; with_reducible assumption) | (with_reducible refine IS.ext ?_ _ _; with_reducible assumption) | (refine hDu _ ?_; with_reducible assumption) | (refine hOu _ ?_; with_reducible assumption) | (refine hDa _ ?_; with_reducible assumption) | (refine hDb _ ?_; with_reducible assumption) | (refine hDc _ ?_; with_reducible assumption) | (refine hDd _ ?_; with_reducible assumption) | (refine FW.fs ?_ (by omega) _; with_reducible assumption) | (refine WS.fs ?_; with_reducible assumption) | (refine FW.fs ?_ (by omega) _; assumption) | omega | assumption)); rintro e w1 ⟨v3, rfl, hv3, o2, n2, rfl⟩; (try simp only [drew_ext, drewN_ext, ext_ext] at hv3))) | (go_at_call 175; ((with_reducible refine (hgi _ _ hv3).mono ?_); rintro e w1 ⟨rfl, o3, n3, rfl⟩)))
        refine bodyPost_ret (v := .tuple #[.slice none 0 0, .slice none 0 0, .int .i64 ((i : Int) + 1), .int .i64 4]) (by simp [results, Try.results102, go_sem, *]) rfl ?_
        exact ⟨_, _, _, [], [], by rw [E4.out], HOF.out, is_nil _, is_nil _, by (show Grew _ _; repeat (first | (with_reducible exact Grew.refl _) | (with_reducible assumption) | (with_reducible exact Grew.same_o) | (with_reducible exact Grew.app_o) | (with_reducible refine Grew.ext ?_ _ _) | (with_reducible refine Grew.alloc ?_ _) | ((with_reducible refine Grew.setCell ?_ ?_ _); rotate_left; (focus (dsimp only; first | omega | (simp only [size_ext, World.size_alloc, Array.size_append]; omega)))) | (with_reducible refine Grew.drewN ?_ _) | (with_reducible refine Grew.drew ?_)))⟩
      | some b =>
        rw [hq] at hgi
        simp only [bestI, Option.isSome] at hgi
        have hbb := rowB_in hq
        have rw1 : IntKind.i64.wrap (-b) = -b := IntWalk.i64_in _ (by omega)
        have hsc := rowsTo'_succ M C i
        rw [hq] at hsc
        have HSC := hid hsc
        have hall2 : ∀ k, k < i + 1 → rowB M C k ≠ none := fun k hk => by
          by_cases e : k = i
          · subst e; rw [hq]; simp
          · exact hall k (by omega)
        have HA := hid hall2
        clear hq hall hall2 hsc hgr hown
        go_wp2_with (first | (go_at_call 132; ((with_reducible refine (hrow i _ hlt ?_).mono ?_); (focus (first | (with_reducible assumption) | (with_reducible refine FS.ext ?_ _ _; with_reducible assumption) | (with_reducible refine IS.ext ?_ _ _; with_reducible assumption) | (refine hDu _ ?_; with_reducible assumption) | (refine hOu _ ?_; with_reducible assumption) | (refine hDa _ ?_; with_reducible assumption) | (refine hDb _ ?_; with_reducible assumption) | (refine hDc _ ?_; with_reducible assumption) | (refine hDd _ ?_; with_reducible assumption) | (refine FW.fs ?_ (by omega) _; with_reducible assumption) | (refine WS.fs ?_; with_reducible assumption) | (refine FW.fs ?_ (by omega) _; assumption) | omega | assumption)); rintro e w1 ⟨rfl, o1, n1, rfl⟩)) | (go_at_call 176; ((with_reducible refine (hrl i _ hlt ?_).mono ?_); (focus (first | (with_reducible assumption) | (with_reducible refine FS.ext ?_ _ _; with_reducible assumption) | (with_reducible refine IS.ext ?_ _ _; with_reducible assumption) | (refine hDu _ ?_; with_reducible assumption) | (refine hOu _ ?_; with_reducible assumption) | (refine hDa _ ?_; with_reducible assumption) | (refine hDb _ ?_; with_reducible assumption) | (refine hDc _ ?_; with_reducible assumption) | (refine hDd _ ?_; with_reducible assumption) | (refine FW.fs ?_ (by omega) _; with_reducible assumption) | (refine WS.fs ?_; with_reducible assumption) | (refine FW.fs ?_ (by omega) _; assumption) | omega | assumption)); rintro e w1 ⟨v3, rfl, hv3, o2, n2, rfl⟩; (try simp only [drew_ext, drewN_ext, ext_ext] at hv3))) | (go_at_call 175; ((with_reducible refine (hgi _ _ hv3).mono ?_); rintro e w1 ⟨rfl, o3, n3, rfl⟩)) | (at_builtin; refine append1_k (z0 := .int .i64 0) iundK iinfoK rfl (W := w) (v := v) (y := .int .i64 (-b)) (xs := (rowsTo' M C i).map (Value.int .i64)) ?_ ?_ rfl lu _ _ rfl rfl rfl ?_ rfl ?_; (focus exact Grew.trans gr (by (show Grew _ _; (try simp only [← Array.append_assoc]); repeat (first | (with_reducible exact Grew.same_o) | (with_reducible exact Grew.refl _) | (with_reducible assumption) | (with_reducible refine Grew.alloc ?_ _) | (with_reducible refine Grew.app_r ?_) | ((with_reducible refine Grew.setCell ?_ ?_ _); rotate_left; (focus (dsimp only; first | omega | (simp only [size_ext, World.size_alloc, Array.size_append]; omega)))) | (with_reducible refine Grew.ext ?_ _ _) | (with_reducible refine Grew.drewN ?_ _) | (with_reducible refine Grew.drew ?_))))); (focus exact hown' _ (by (show Grew _ _; (try simp only [← Array.append_assoc]); repeat (first | (with_reducible exact Grew.same_o) | (with_reducible exact Grew.refl _) | (with_reducible assumption) | (with_reducible refine Grew.alloc ?_ _) | (with_reducible refine Grew.app_r ?_) | ((with_reducible refine Grew.setCell ?_ ?_ _); rotate_left; (focus (dsimp only; first | omega | (simp only [size_ext, World.size_alloc, Array.size_append]; omega)))) | (with_reducible refine Grew.ext ?_ _ _) | (with_reducible refine Grew.drewN ?_ _) | (with_reducible refine Grew.drew ?_))))); (focus (first | rfl | (simp only [size_ext, Array.size_append]; done) | (simp only [size_ext]; done))); intro v2 w2 gw2 zw2 hv2 hk2 hn2; (obtain ⟨va2, vl2, vc2, rfl⟩ := owns_shape hv2); (have hk3 : ∀ k, k < wr.heap.size → v.ownBlock ≠ some k → w2.heap[k]? = wr.heap[k]? := fun k h1 h2 => (hk2 k (by simp only [size_ext]; omega) h2).trans (block_ext' h1)); (have C1 : Box w2 p1 #[D, .int .i64 x.off, .int .i64 R, .int .i64 C, .int .i64 x.ld] := by (obtain ⟨e, he⟩ := B1; exact ⟨e, (hk3 p1 l1 (fun h => nv p1 h (by simp))).trans he⟩)); (have C2 : Box w2 p2 #[v] := by (obtain ⟨e, he⟩ := B2; exact ⟨e, (hk3 p2 l2 (fun h => nv p2 h (by simp))).trans he⟩)); (have q2 := C2.cell); (have m2 := C2.frozen); (have j2 := C2.lt)))
        go_roundw
        case rel =>
          rw [C2.set1 rfl]
          refine ⟨i + 1, _, hlt, rfl, by go_num, gw2.upd z2 _, C1.upd_ne n12 _, C2.upd_self _, OwnI.upd_ne ?_ ?_ _, HA.out, ?_⟩
          · rw [HSC.out]; simpa [OwnI, bestI] using hv2
          · intro h
            rcases hn2 p2 h with h | h
            · exact nv p2 h (by simp)
            · simp only [size_ext] at h; omega
          · intro k hk
            rcases hn2 k hk with h | h
            · exact nv k h
            · simp only [size_ext] at h
              simp only [List.mem_cons, List.not_mem_nil, or_false]; omega
        case measure => simp [intOf]; omega
    · have e : i = R := by omega
      subst e
      obtain ⟨rs, hrs⟩ : ∃ rs, rs = rowsTo' M C i := ⟨_, rfl⟩
      rw [← hrs] at hown
      have lrs : rs.length = i := by rw [hrs, rowsTo'_length]
      have brs : ∀ k, -50000 ≤ rs.getD k 0 ∧ rs.getD k 0 ≤ 50000 := fun k => by
        have := rowsTo'_in hall k
        rw [← hrs] at this; omega
      obtain ⟨av, lv, cv, rfl⟩ := owns_shape hown
      have HALL := hid hall
      have HRS := hid hrs
      have hcolB : ∀ (j : Nat) (b : Int), colB M i rs j = some b → -100000 ≤ b ∧ b ≤ 100000 := fun j b h => bestTo_in (fun k => by have := fexp_range' (M k j); have := brs k; omega) i b h
      have HCB := hid hcolB
      have hcol := HM1.out
      have hclL := HM2.out
      have hgc := HM3.out
      clear hall hrs hgr hrow hrl HM1 HM2 HM3 hcolB
      clear hDr
      go_wp2
      clear t1 t2 f2
      obtain ⟨U0, hU0⟩ : ∃ U0, U0 = wr := ⟨_, rfl⟩
      go_loopw [3, 45] (fun u c wr => ∃ (j : Nat), j ≤ C ∧ c = .int .i64 j ∧ Grew w wr ∧ Box wr p1 #[D, .int .i64 x.off, .int .i64 i, .int .i64 C, .int .i64 x.ld] ∧ Box wr p2 #[.slice av lv cv] ∧ OwnI wr w.heap.size (.slice av lv cv) rs ∧ OwnI wr w.heap.size u (colsTo' M i rs j) ∧ (∀ k, k < j → colB M i rs k ≠ none) ∧ (∀ k, u.ownBlock = some k → k ∉ [p1, p2]) ∧ ApartV u (.slice av lv cv)) (fun _ c _ => C - (intOf c).toNat)
      case atStart => exact ⟨0, Nat.zero_le _, rfl, gr, B1, B2, hown, OwnI.nil _ _, fun k hk => absurd hk (Nat.not_lt_zero k), fun k hk => by simp [Value.ownBlock] at hk, fun k hk => by simp [Value.ownBlock] at hk⟩
      case round =>
        clear hU0 gr B1 B2 hown l1 l2
        obtain ⟨j, hj, rfl, gr, B1, B2, hown, hu, hall, nu, hap⟩ := hrel
        have t1 := B1.cell
        have t2 := B2.cell
        have f2 := B2.frozen
        have l1 := B1.lt
        have l2 := B2.lt
        have hDr := hD.grew gr
        have hIS := hown.is (by rw [lrs]; omega)
        by_cases hlt : j < C
        · have hgj : ∀ v w', FS w' v (colV x j).list → Grew wr w' → Calls Try.prog 175 #[v, .func (.func 179) #[] #[.pointer (some ⟨p2, 0, none⟩)]] w' (fun e w2 => e = .returned (.tuple #[.int .i64 (bestI (colB M i rs j)), .bool (colB M i rs j).isSome]) ∧ ∃ o n, w2 = ext w' o n) := fun v w' h g => hgc j v w' p2 _ rs h (hIS.grew g) (fun k => (B2.grew g).cell k) (B2.grew g).lt lrs brs
          have hu' : ∀ w', Grew wr w' → w'.ownsRow w.heap.size 3 1 u3 ((colsTo' M i rs j).map (Value.int .i64)).length ((colsTo' M i rs j).map (Value.int .i64)) := fun w' g => by rw [List.length_map]; exact hu.grew g
          have lu : ((colsTo' M i rs j).map (Value.int .i64)).length < 17592186044415 := by rw [List.length_map, colsTo'_length]; omega
          cases hq : colB M i rs j with
          | none =>
            rw [hq] at hgj
            simp only [bestI, Option.isSome] at hgj
            have e4 : errF ((i : Int) + j + 1) = 4 := errF_pos (by omega)
            have rw1 : IntKind.i64.wrap ((i : Int) + j) = (i : Int) + j := IntWalk.i64_in _ (by omega)
            have rw2 : IntKind.i64.wrap ((i : Int) + j + 1) = (i : Int) + j + 1 := IntWalk.i64_in _ (by omega)
            have hof : FactsOut M i C ((i : Int) + j + 1) [] [] := .inr (.inl ⟨HALL.out, j, hlt, rfl, by rw [← HRS.out]; exact hq, by rw [← HRS.out]; exact hall, rfl, rfl⟩)
            have HOF := hid hof
            have E4 := hid e4
            clear hq hall hof e4 hgc
            go_upto_region 18 with (first | (go_at_call 149; ((with_reducible refine (hcol j _ hlt ?_).mono ?_); (focus (first | (with_reducible assumption) | (with_reducible refine FS.ext ?_ _ _; with_reducible assumption) | (with_reducible refine IS.ext ?_ _ _; with_reducible assumption) | (refine hDu _ ?_; with_reducible assumption) | (refine hOu _ ?_; with_reducible assumption) | (refine hDa _ ?_; with_reducible assumption) | (refine hDb _ ?_; with_reducible assumption) | (refine hDc _ ?_; with_reducible assumption) | (refine hDd _ ?_; with_reducible assumption) | (refine FW.fs ?_ (by omega) _; with_reducible assumption) | (refine WS.fs ?_; with_reducible assumption) | (refine FW.fs ?_ (by omega) _; assumption) | omega | assumption)); rintro e w1 ⟨rfl, o1, n1, rfl⟩)) | (go_at_call 176; ((with_reducible refine (hclL j _ hlt ?_).mono ?_); (focus (first | (with_reducible assumption) | (with_reducible refine FS.ext ?_ _ _; with_reducible assumption) | (with_reducible refine IS.ext ?_ _ _; with_reducible assumption) | (refine hDu _ ?_; with_reducible assumption) | (refine hOu _ ?_; with_reducible assumption) | (refine hDa _ ?_; with_reducible assumption) | (refine hDb _ ?_; with_reducible assumption) | (refine hDc _ ?_; with_reducible assumption) | (refine hDd _ ?_; with_reducible assumption) | (refine FW.fs ?_ (by omega) _; with_reducible assumption) | (refine WS.fs ?_; with_reducible assumption) | (refine FW.fs ?_ (by omega) _; assumption) | omega | assumption)); rintro e w1 ⟨v3, rfl, hv3, o2, n2, rfl⟩; (try simp only [drew_ext, drewN_ext, ext_ext] at hv3))) | (go_at_call 175; ((with_reducible refine (hgj _ _ hv3 (by (show Grew _ _; (try simp only [← Array.append_assoc]); repeat (first | (with_reducible exact Grew.same_o) | (with_reducible exact Grew.refl _) | (with_reducible assumption) | (with_reducible refine Grew.alloc ?_ _) | (with_reducible refine Grew.app_r ?_) | ((with_reducible refine Grew.setCell ?_ ?_ _); rotate_left; (focus (dsimp only; first | omega | (simp only [size_ext, World.size_alloc, Array.size_append]; omega)))) | (with_reducible refine Grew.ext ?_ _ _) | (with_reducible refine Grew.drewN ?_ _) | (with_reducible refine Grew.drew ?_))))).mono ?_); rintro e w1 ⟨rfl, o3, n3, rfl⟩)))
            refine name_any (fun V1 hV1 => ?_)
            have gV1 : Grew wr V1 := by rw [← hV1]; (show Grew _ _; (try simp only [← Array.append_assoc]); repeat (first | (with_reducible exact Grew.same_o) | (with_reducible exact Grew.refl _) | (with_reducible assumption) | (with_reducible refine Grew.alloc ?_ _) | (with_reducible refine Grew.app_r ?_) | ((with_reducible refine Grew.setCell ?_ ?_ _); rotate_left; (focus (dsimp only; first | omega | (simp only [size_ext, World.size_alloc, Array.size_append]; omega)))) | (with_reducible refine Grew.ext ?_ _ _) | (with_reducible refine Grew.drewN ?_ _) | (with_reducible refine Grew.drew ?_)))
            have D1 := B1.grew gV1
            have D2 := B2.grew gV1
            have grV := Grew.trans gr gV1
            have t1 : ∀ w', But V1 [p2] w' → ∀ k, w'.cell? ⟨p1, k, none⟩ = (#[D, .int .i64 x.off, .int .i64 i, .int .i64 C, .int .i64 x.ld] : Array Value)[k]? := fun w' h k => (h.cell D1.lt (by simpa using n12)).trans (D1.cell k)
            have t2 := D2.cell
            have f2 := D2.frozen
            have l2 := D2.lt
            have B0 := But.refl V1 [p2]
            have hcls : But V1 [p2] (V1.setCell ⟨p2, 0, none⟩ (.slice none 0 0)).drew := by
              rw [D2.set1 rfl]; exact ((But.refl V1 [p2]).upd (.inl (by simp)) _).grew ((Grew.refl _).drew)
            clear hV1 B1 B2 hDr
            refine wp_region_R (But V1 [p2]) [] [(0,0), (0,1), (0,2), (0,3), (0,4), (1,5), (0,6), (0,7), (0,8)] (by kernel_rfl) (by kernel_rfl) (fun _ _ _ _ h _ => h) (B0.grew ((Grew.refl _).drew)) ?_
            go_wp2_with (first | ((with_reducible refine wpR_id ?_); first | (refine wpR_take (v := ?_) rfl rfl ?_ ?_; rotate_left; (focus (intro w' hw'; go_simp; try with_reducible rfl)); simp only [Act.put, List.setIfInBounds_toArray, List.set_cons_zero, List.set_cons_succ]) | (refine wpR_pure (v := ?_) rfl rfl ?_ ?_; rotate_left; (focus (intro w'; go_simp; try with_reducible rfl)); simp only [Act.put, List.setIfInBounds_toArray, List.set_cons_zero, List.set_cons_succ]) | (refine wpR_takeG (v := ?_) rfl rfl rfl rfl rfl ?_ ?_; rotate_left; (focus (intro w' hw'; go_simp; try with_reducible rfl)); simp only [Act.put, List.setIfInBounds_toArray, List.set_cons_zero, List.set_cons_succ]) | (refine wpR_skip rfl rfl rfl rfl rfl rfl ?_; simp only [Act.put, List.setIfInBounds_toArray, List.set_cons_zero, List.set_cons_succ]) | (refine wpR_skipU rfl rfl rfl rfl rfl ?_; simp only [Act.put, List.setIfInBounds_toArray, List.set_cons_zero, List.set_cons_succ]) | (refine wpR_do rfl rfl (fun K hK => ?_)) | (refine wpR_doG rfl rfl rfl rfl rfl (fun K hK => ?_)) | (refine wpR_last rfl rfl (fun K hK => ?_)) | (refine wpR_nil ?_)) | ((with_reducible refine wpR_go ?_ ?_); (focus (with_reducible assumption))) | ((with_reducible refine upon_id ?_); refine upon_fop rfl (by assumption) (by assumption) ?_; intro rr nn hr))
            refine bodyPost_ret (v := .tuple #[.slice none 0 0, .slice none 0 0, .int .i64 ((i : Int) + j + 1), .int .i64 4]) (by simp [results, Try.results102, go_sem, *]) rfl ?_
            exact ⟨_, _, _, [], [], by rw [E4.out], HOF.out, is_nil _, is_nil _, by (show Grew _ _; repeat (first | (with_reducible exact Grew.refl _) | (with_reducible assumption) | (with_reducible exact Grew.same_o) | (with_reducible exact Grew.app_o) | (with_reducible refine Grew.ext ?_ _ _) | (with_reducible refine Grew.alloc ?_ _) | ((with_reducible refine Grew.setCell ?_ ?_ _); rotate_left; (focus (dsimp only; first | omega | (simp only [size_ext, World.size_alloc, Array.size_append]; omega)))) | (with_reducible refine Grew.drewN ?_ _) | (with_reducible refine Grew.drew ?_)))⟩
          | some b =>
            rw [hq] at hgj
            simp only [bestI, Option.isSome] at hgj
            have hbb := HCB.out j b hq
            have rw1 : IntKind.i64.wrap (-b) = -b := IntWalk.i64_in _ (by omega)
            have hsc := colsTo'_succ M i rs j
            rw [hq] at hsc
            have HSC := hid hsc
            have hall2 : ∀ k, k < j + 1 → colB M i rs k ≠ none := fun k hk => by
              by_cases e : k = j
              · subst e; rw [hq]; simp
              · exact hall k (by omega)
            have HA := hid hall2
            clear hq hall hall2 hsc hgc
            go_wp2_with (first | (go_at_call 149; ((with_reducible refine (hcol j _ hlt ?_).mono ?_); (focus (first | (with_reducible assumption) | (with_reducible refine FS.ext ?_ _ _; with_reducible assumption) | (with_reducible refine IS.ext ?_ _ _; with_reducible assumption) | (refine hDu _ ?_; with_reducible assumption) | (refine hOu _ ?_; with_reducible assumption) | (refine hDa _ ?_; with_reducible assumption) | (refine hDb _ ?_; with_reducible assumption) | (refine hDc _ ?_; with_reducible assumption) | (refine hDd _ ?_; with_reducible assumption) | (refine FW.fs ?_ (by omega) _; with_reducible assumption) | (refine WS.fs ?_; with_reducible assumption) | (refine FW.fs ?_ (by omega) _; assumption) | omega | assumption)); rintro e w1 ⟨rfl, o1, n1, rfl⟩)) | (go_at_call 176; ((with_reducible refine (hclL j _ hlt ?_).mono ?_); (focus (first | (with_reducible assumption) | (with_reducible refine FS.ext ?_ _ _; with_reducible assumption) | (with_reducible refine IS.ext ?_ _ _; with_reducible assumption) | (refine hDu _ ?_; with_reducible assumption) | (refine hOu _ ?_; with_reducible assumption) | (refine hDa _ ?_; with_reducible assumption) | (refine hDb _ ?_; with_reducible assumption) | (refine hDc _ ?_; with_reducible assumption) | (refine hDd _ ?_; with_reducible assumption) | (refine FW.fs ?_ (by omega) _; with_reducible assumption) | (refine WS.fs ?_; with_reducible assumption) | (refine FW.fs ?_ (by omega) _; assumption) | omega | assumption)); rintro e w1 ⟨v3, rfl, hv3, o2, n2, rfl⟩; (try simp only [drew_ext, drewN_ext, ext_ext] at hv3))) | (go_at_call 175; ((with_reducible refine (hgj _ _ hv3 (by (show Grew _ _; (try simp only [← Array.append_assoc]); repeat (first | (with_reducible exact Grew.same_o) | (with_reducible exact Grew.refl _) | (with_reducible assumption) | (with_reducible refine Grew.alloc ?_ _) | (with_reducible refine Grew.app_r ?_) | ((with_reducible refine Grew.setCell ?_ ?_ _); rotate_left; (focus (dsimp only; first | omega | (simp only [size_ext, World.size_alloc, Array.size_append]; omega)))) | (with_reducible refine Grew.ext ?_ _ _) | (with_reducible refine Grew.drewN ?_ _) | (with_reducible refine Grew.drew ?_))))).mono ?_); rintro e w1 ⟨rfl, o3, n3, rfl⟩)) | (at_builtin; refine append1_k (z0 := .int .i64 0) iundK iinfoK rfl (W := w) (v := u3) (y := .int .i64 (-b)) (xs := (colsTo' M i rs j).map (Value.int .i64)) ?_ ?_ rfl lu _ _ rfl rfl rfl ?_ rfl ?_; (focus exact Grew.trans gr (by (show Grew _ _; (try simp only [← Array.append_assoc]); repeat (first | (with_reducible exact Grew.same_o) | (with_reducible exact Grew.refl _) | (with_reducible assumption) | (with_reducible refine Grew.alloc ?_ _) | (with_reducible refine Grew.app_r ?_) | ((with_reducible refine Grew.setCell ?_ ?_ _); rotate_left; (focus (dsimp only; first | omega | (simp only [size_ext, World.size_alloc, Array.size_append]; omega)))) | (with_reducible refine Grew.ext ?_ _ _) | (with_reducible refine Grew.drewN ?_ _) | (with_reducible refine Grew.drew ?_))))); (focus exact hu' _ (by (show Grew _ _; (try simp only [← Array.append_assoc]); repeat (first | (with_reducible exact Grew.same_o) | (with_reducible exact Grew.refl _) | (with_reducible assumption) | (with_reducible refine Grew.alloc ?_ _) | (with_reducible refine Grew.app_r ?_) | ((with_reducible refine Grew.setCell ?_ ?_ _); rotate_left; (focus (dsimp only; first | omega | (simp only [size_ext, World.size_alloc, Array.size_append]; omega)))) | (with_reducible refine Grew.ext ?_ _ _) | (with_reducible refine Grew.drewN ?_ _) | (with_reducible refine Grew.drew ?_))))); (focus (first | rfl | (simp only [size_ext, Array.size_append]; done) | (simp only [size_ext]; done))); intro v2 w2 gw2 zw2 hv2 hk2 hn2))
            have hk3 : ∀ k, k < wr.heap.size → u3.ownBlock ≠ some k → w2.heap[k]? = wr.heap[k]? := fun k h1 h2 => (hk2 k (by simp only [size_ext]; omega) h2).trans (block_ext' h1)
            simp only [size_ext] at hn2
            go_roundw
            case rel =>
              refine ⟨j + 1, hlt, by go_num, gw2, ?_, ?_, hown.same (fun k hk => hk3 k (World.ownsRow.lt hown k hk).2 (fun h => hap k h hk)), ?_, HA.out, fun k hk => ?_, fun k hk h2 => ?_⟩
              · obtain ⟨e, he⟩ := B1; exact ⟨e, (hk3 p1 l1 (fun h => nu p1 h (by simp))).trans he⟩
              · obtain ⟨e, he⟩ := B2; exact ⟨e, (hk3 p2 l2 (fun h => nu p2 h (by simp))).trans he⟩
              · rw [HSC.out]; simpa [OwnI, bestI] using hv2
              · rcases hn2 k hk with h | h
                · exact nu k h
                · simp only [List.mem_cons, List.not_mem_nil, or_false]; omega
              · rcases hn2 k hk with h | h
                · exact hap k h h2
                · have := (World.ownsRow.lt hown k h2).2; omega
            case measure => simp [intOf]; omega
        · have e : j = C := by omega
          subst e
          have hof : FactsOut M i j 0 rs (colsTo' M i rs j) := .inr (.inr ⟨HALL.out, fun k hk => by rw [← HRS.out]; exact hall k hk, rfl, HRS.out, by rw [HRS.out]⟩)
          have HOF := hid hof
          have hIu := hu.is (by rw [colsTo'_length]; omega)
          obtain ⟨au, lu2, cu, rfl⟩ := owns_shape hu
          have z2' := z2
          clear hgc hall hof hown hu
          go_wp2
          refine bodyPost_ret (v := .tuple #[.slice av lv cv, .slice au lu2 cu, .int .i64 0, .int .i64 0]) (by simp [results, Try.results102, go_sem, *]) rfl ?_
          rw [B2.set1 rfl, B2.self]
          exact ⟨_, _, _, _, _, by rw [show errF 0 = 0 from rfl], HOF.out, hIS, hIu, gr⟩
end Go.Proofs.Ytcmggfpcbijcjaa
end
