/-
  Contracts: a table's numbers into a list; a vector's list; a list into a vector's places (reference of layer 3).
-/
import Derived.Test.YtcmggfpcbijcjaaTabs
set_option linter.unusedSimpArgs false
set_option linter.unusedVariables false
open Go Go.RowKit Sedge
namespace Go.Proofs.Ytcmggfpcbijcjaa
set_option maxRecDepth 100000 in
set_option maxHeartbeats 1000000 in
/-- straightedgeref03.Into. -/
theorem rinto_any (x : MatM) (D A : Value) (R C : Nat) (ts : List Nat) (w : World) (hD : FS w D x.ws) (hA : FS w A ts) (hx : x.good = true) (hr : R ≤ 1000) (hc : C ≤ 1000) (hR : (R : Int) ≤ x.rows) (hC : (C : Int) ≤ x.cols)
    (hl : x.ws.length ≤ 1000000) (ht : ts.length = R * C) :
   Calls Try.prog 51 #[.agg #[D, .int .i64 x.off, .int .i64 x.rows, .int .i64 x.cols, .int .i64 x.ld], .agg #[.int .i64 R, .int .i64 C, A]] w
     (fun e w' => ∃ v, e = .returned v ∧ WS w' w.heap.size v (x.into R C ts) ∧ ∃ o n, w' = ext w o n) := by
  have hn := MatM.good_n hx
  have hm : R * C ≤ 1000 * 1000 := Nat.mul_le_mul hr hc
  have Hx := hid hx
  have Hn := hid hn
  have Hm := hid hm
  have HR := hid hR
  have HC := hid hC
  clear hx hn hm hR hC
  go_enter Try.func51, Try.ntmps51
  refine seq_stop ?_
  go_wp2
  refine stop_go (fun W hW => ?_)
  have s1 : w.heap.size < W.heap.size := by rw [hW]; simp only [World.size_alloc]; omega
  have b1 : ∀ i, W.cell? ⟨w.heap.size, i, none⟩ = (#[D, .int .i64 x.off, .int .i64 x.rows, .int .i64 x.cols, .int .i64 x.ld] : Array Value)[i]? := by intro i; rw [hW]; go_simp
  have f1 : ∀ i, W.frozen? ⟨w.heap.size, i, none⟩ = false := by intro i; rw [hW]; go_simp
  have s2 : w.heap.size + 1 < W.heap.size := by rw [hW]; simp only [World.size_alloc]; omega
  have b2 : ∀ i, W.cell? ⟨w.heap.size + 1, i, none⟩ = (#[.int .i64 R, .int .i64 C, A] : Array Value)[i]? := by intro i; rw [hW]; go_simp
  have f2 : ∀ i, W.frozen? ⟨w.heap.size + 1, i, none⟩ = false := by intro i; rw [hW]; go_simp
  have g0 : Grew w W := by rw [hW]; exact ((Grew.refl _).alloc _).alloc _
  clear hW
  have hDW : FS W D x.ws := hD.grew g0
  have hAW : FS W A ts := hA.grew g0
  go_wp2_with (at_builtin; refine appendN_f finfo (Grew.refl W |>.alloc _) (OwnF.empty rfl (Nat.le_refl _)) (FS.alloc hDW _) (by simp; omega) _ _ rfl rfl rfl rfl ?_; intro v oo nn ho hn; obtain ⟨g, cap, rfl, hg, hF, hL⟩ := ho.ws (hn notnil) (by simp; omega); simp only [List.nil_append] at hF hL)
  refine name_any (fun V hV => ?_)
  have gV : Grew W V := by rw [← hV]; (show Grew _ _; repeat (first | (with_reducible exact Grew.refl _) | (with_reducible assumption) | (with_reducible refine Grew.ext ?_ _ _) | (with_reducible refine Grew.alloc ?_ _) | ((with_reducible refine Grew.setCell ?_ ?_ _); rotate_left; (focus (dsimp only; first | omega | (simp only [size_ext, World.size_alloc, Array.size_append]; omega)))) | (with_reducible refine Grew.drewN ?_ _) | (with_reducible refine Grew.drew ?_)))
  have sV := gV.below.size
  have k1 : w.heap.size < V.heap.size := by omega
  have k2 : w.heap.size + 1 < V.heap.size := by omega
  have c1 : ∀ i, V.cell? ⟨w.heap.size, i, none⟩ = (#[D, .int .i64 x.off, .int .i64 x.rows, .int .i64 x.cols, .int .i64 x.ld] : Array Value)[i]? := fun i => (gV.cell s1).trans (b1 i)
  have c2 : ∀ i, V.cell? ⟨w.heap.size + 1, i, none⟩ = (#[.int .i64 R, .int .i64 C, A] : Array Value)[i]? := fun i => (gV.cell s2).trans (b2 i)
  have hFV : FW V g x.ws := by rw [← hV]; (repeat (first | (with_reducible assumption) | ((with_reducible refine FW.ext_set ?_ ?_ ?_ _); rotate_left; (focus (simp only [size_setCell', World.size_alloc, size_ext, size_upd]; omega)); (focus (dsimp only; omega))) | ((with_reducible refine FW.setCell_ne ?_ ?_ _); rotate_left; (focus (dsimp only; omega))) | (with_reducible refine FW.ext ?_ _ _) | (with_reducible refine FW.alloc ?_ _)))
  have gl := hFV.lt
  have q1 : w.heap.size ≠ g := by omega
  have q2 : w.heap.size + 1 ≠ g := by omega
  clear hV b1 f1 b2 f2 hD hA ho hn
  go_loopw [6] (fun c wr => ∃ (i : Nat) (cs : Array Value) (o : Array Obj) (n : Nat), i ≤ R ∧ c = .int .i64 i ∧ wr = ext (upd V g cs) o n ∧ CF cs (x.intoTo R C ts (i * C))) (fun c _ => R - (intOf c).toNat)
  case atStart =>
    obtain ⟨cs, h1, h2⟩ := hFV.self
    exact ⟨0, cs, #[], _, Nat.zero_le _, rfl, by rw [h1]; exact ext_zero.symm, by simpa [writes, MatM.intoTo] using h2⟩
  case round =>
    obtain ⟨i, cs, o2, n2, hi, rfl, hwr, hcs⟩ := hrel
    subst hwr
    by_cases hlt : i < R
    · go_wp2
      go_loopw [7] (fun c wr => ∃ (j : Nat) (cs : Array Value) (o : Array Obj) (n : Nat), j ≤ C ∧ c = .int .i64 j ∧ wr = ext (upd V g cs) o n ∧ CF cs (x.intoTo R C ts (i * C + j))) (fun c _ => C - (intOf c).toNat)
      case atStart => exact ⟨0, cs, o2, n2, Nat.zero_le _, rfl, rfl, hcs⟩
      case round =>
        obtain ⟨j, cs, o3, n3, hj, rfl, hwr, hcs⟩ := hrel
        subst hwr
        by_cases hltj : j < C
        · have hp := MatM.good_place Hx.out (i := i) (j := j) (by have := HR.out; omega) (by have := HC.out; omega)
          have hn := Hn.out
          have hat := at_lt hlt hltj
          have h2 : IntKind.i64.wrap (j * x.ld) = j * x.ld := IntWalk.i64_in _ (by omega)
          have h3 : IntKind.i64.wrap (x.off + i) = x.off + i := IntWalk.i64_in _ (by omega)
          have h4 : IntKind.i64.wrap (x.off + i + j * x.ld) = x.off + i + j * x.ld := IntWalk.i64_in _ (by omega)
          have hlen : (x.intoTo R C ts (i * C + j)).length = x.ws.length := by simp [MatM.intoTo]
          have fz : ∀ i, V.frozen? ⟨g, i, none⟩ = false := hFV.notFrozen
          obtain ⟨r0, hr0, _⟩ := (hFV.mk' hcs o3 n3).get (i := x.place i j) (by rw [hlen]; unfold MatM.place; omega)
          have hr1 := (cell_ext (by simpa using gl)).symm.trans hr0
          unfold MatM.place at hr1
          have hAV : FS (upd V g cs) A ts := hAW.grew (gV.upd hg cs)
          go_wp2
          refine wp_region_R (Over V g) [] [(0,0), (0,1), (0,2), (0,3), (0,4), (0,5), (0,6), (0,7), (0,8), (0,9), (0,10), (0,11), (0,12), (1,13), (0,14), (1,15)] (by kernel_rfl) (by kernel_rfl) (fun _ _ _ _ h _ => h) ⟨_, _, _, ext_drew⟩ ?_
          go_wp2_with (first | ((with_reducible refine wpR_id ?_); first | (refine wpR_take (v := ?_) rfl rfl ?_ ?_; rotate_left; (focus (rintro w' ⟨cs', o', n', rfl⟩; go_simp; try with_reducible rfl)); simp only [Act.put, List.setIfInBounds_toArray, List.set_cons_zero, List.set_cons_succ]) | (refine wpR_pure (v := ?_) rfl rfl ?_ ?_; rotate_left; (focus (intro w'; go_simp; try with_reducible rfl)); simp only [Act.put, List.setIfInBounds_toArray, List.set_cons_zero, List.set_cons_succ]) | (refine wpR_takeG (v := ?_) rfl rfl rfl rfl rfl ?_ ?_; rotate_left; (focus (rintro w' ⟨cs', o', n', rfl⟩; go_simp; try with_reducible rfl)); simp only [Act.put, List.setIfInBounds_toArray, List.set_cons_zero, List.set_cons_succ]) | (refine wpR_skip rfl rfl rfl rfl rfl rfl ?_; simp only [Act.put, List.setIfInBounds_toArray, List.set_cons_zero, List.set_cons_succ]) | (refine wpR_skipU rfl rfl rfl rfl rfl ?_; simp only [Act.put, List.setIfInBounds_toArray, List.set_cons_zero, List.set_cons_succ]) | (refine wpR_do rfl rfl (fun K hK => ?_)) | (refine wpR_doG rfl rfl rfl rfl rfl (fun K hK => ?_)) | (refine wpR_last rfl rfl (fun K hK => ?_)) | (refine wpR_nil ?_)) | ((with_reducible refine wpR_go ?_ ?_); (focus exact ⟨_, _, _, rfl⟩)) | ((with_reducible refine upon_id ?_); refine upon_fop rfl (by assumption) (by assumption) ?_; intro rr nn hr) | (go_at_call 72; ((with_reducible refine (rat_any R C i j A ts _ ?_ hr hc ?_ ?_ ?_).mono ?_); (focus (with_reducible exact hAV.ext _ _)); (focus omega); (focus omega); (focus omega); rintro e w1 ⟨b, rfl, hb, o4, n4, rfl⟩)))
          go_roundw
          case rel =>
            refine ⟨j + 1, _, _, _, by omega, by go_num, rfl, ?_⟩
            have e : i * C + (j + 1) = i * C + j + 1 := by omega
            rw [e]
            have h8 := hcs.set (i := x.place i j) hb
            unfold MatM.intoTo at h8 ⊢; unfold writes
            rw [(at_div hltj).1, (at_div hltj).2]; exact h8
          case measure => simp [intOf]; omega
        · have e : C = j := by omega
          go_wp2
          go_roundw
          case rel => exact ⟨i + 1, cs, _, _, by omega, by go_num, rfl, by rw [Nat.succ_mul, e]; rw [e] at hcs; exact hcs⟩
          case measure => simp [intOf]; omega
    · have e : R = i := by omega
      have hlen : (x.into R C ts).length = x.ws.length := by simp [MatM.into, MatM.intoTo]
      have hfw : FW (ext (upd V g cs) o2 n2) g (x.into R C ts) := by unfold MatM.into; rw [e] at *; exact hFV.mk' hcs _ _
      have gu : Grew w (upd V g cs) := (g0.trans gV).upd (by omega) cs
      go_wp2
      go_ret
      exact ⟨_, rfl, ⟨g, cap, by rw [hlen]; rfl, by omega, by (repeat (first | (with_reducible assumption) | ((with_reducible refine FW.ext_set ?_ ?_ ?_ _); rotate_left; (focus (simp only [size_setCell', World.size_alloc, size_ext, size_upd]; omega)); (focus (dsimp only; omega))) | ((with_reducible refine FW.setCell_ne ?_ ?_ _); rotate_left; (focus (dsimp only; omega))) | (with_reducible refine FW.ext ?_ _ _) | (with_reducible refine FW.alloc ?_ _))), by omega⟩, by (show Grew _ _; repeat (first | (with_reducible exact Grew.refl _) | (with_reducible assumption) | (with_reducible refine Grew.ext ?_ _ _) | (with_reducible refine Grew.alloc ?_ _) | ((with_reducible refine Grew.setCell ?_ ?_ _); rotate_left; (focus (dsimp only; first | omega | (simp only [size_ext, World.size_alloc, Array.size_append]; omega)))) | (with_reducible refine Grew.drewN ?_ _) | (with_reducible refine Grew.drew ?_)))⟩
/-- The list as it is when a vector's numbers in it are others. -/
def VecMwriteTo (m : VecM) (l : List Nat) (k : Nat) : List Nat := writes m.ws m.place (fun t => l.getD t 0) k
def VecMwrite (m : VecM) (l : List Nat) : List Nat := VecMwriteTo m l (min m.n.toNat l.length)
set_option maxRecDepth 100000 in
set_option maxHeartbeats 1000000 in
/-- straightedgeref03.Write. -/
theorem rwrite_any (x : VecM) (D L : Value) (ls : List Nat) (w : World) (hD : FS w D x.ws) (hL : FS w L ls) (hx : x.right = true) (hwf : x.wf) (hl : x.ws.length ≤ 1000000) :
   Calls Try.prog 66 #[.agg #[D, .int .i64 x.off, .int .i64 x.n, .int .i64 x.inc], L] w
     (fun e w' => ∃ v, e = .returned v ∧ WS w' w.heap.size v (VecMwrite x ls) ∧ ∃ o n, w' = ext w o n) := by
  have hn := VecM.right_n hx
  have hn2 := hwf.2.1.2
  have Hx := hid hx
  have Hn := hid hn
  have Hn2 := hid hn2
  obtain ⟨aL, capL, rfl⟩ := hL.shape
  have hlL := hL.len
  clear hx hn hwf hn2
  go_enter Try.func66, Try.ntmps66
  refine seq_stop ?_
  go_wp2
  refine stop_go (fun W hW => ?_)
  have s1 : w.heap.size < W.heap.size := by rw [hW]; simp only [World.size_alloc]; omega
  have b1 : ∀ i, W.cell? ⟨w.heap.size, i, none⟩ = (#[D, .int .i64 x.off, .int .i64 x.n, .int .i64 x.inc] : Array Value)[i]? := by intro i; rw [hW]; go_simp
  have f1 : ∀ i, W.frozen? ⟨w.heap.size, i, none⟩ = false := by intro i; rw [hW]; go_simp
  have g0 : Grew w W := by rw [hW]; exact (Grew.refl _).alloc _
  clear hW
  have hDW : FS W D x.ws := hD.grew g0
  have hLW : FS W (.slice aL ls.length capL) ls := hL.grew g0
  go_wp2_with (at_builtin; refine appendN_f finfo (Grew.refl W |>.alloc _) (OwnF.empty rfl (Nat.le_refl _)) (FS.alloc hDW _) (by simp; omega) _ _ rfl rfl rfl rfl ?_; intro v oo nn ho hn; obtain ⟨g, cap, rfl, hg, hF, hL⟩ := ho.ws (hn notnil) (by simp; omega); simp only [List.nil_append] at hF hL)
  refine name_any (fun V hV => ?_)
  have gV : Grew W V := by rw [← hV]; (show Grew _ _; repeat (first | (with_reducible exact Grew.refl _) | (with_reducible assumption) | (with_reducible refine Grew.ext ?_ _ _) | (with_reducible refine Grew.alloc ?_ _) | ((with_reducible refine Grew.setCell ?_ ?_ _); rotate_left; (focus (dsimp only; first | omega | (simp only [size_ext, World.size_alloc, Array.size_append]; omega)))) | (with_reducible refine Grew.drewN ?_ _) | (with_reducible refine Grew.drew ?_)))
  have sV := gV.below.size
  have k1 : w.heap.size < V.heap.size := by omega
  have c1 : ∀ i, V.cell? ⟨w.heap.size, i, none⟩ = (#[D, .int .i64 x.off, .int .i64 x.n, .int .i64 x.inc] : Array Value)[i]? := fun i => (gV.cell s1).trans (b1 i)
  have hFV : FW V g x.ws := by rw [← hV]; (repeat (first | (with_reducible assumption) | ((with_reducible refine FW.ext_set ?_ ?_ ?_ _); rotate_left; (focus (simp only [size_setCell', World.size_alloc, size_ext, size_upd]; omega)); (focus (dsimp only; omega))) | ((with_reducible refine FW.setCell_ne ?_ ?_ _); rotate_left; (focus (dsimp only; omega))) | (with_reducible refine FW.ext ?_ _ _) | (with_reducible refine FW.alloc ?_ _)))
  have gl := hFV.lt
  have q1 : w.heap.size ≠ g := by omega
  clear hV b1 f1 hD ho hn
  go_loopw [6] (fun c wr => ∃ (i : Nat) (cs : Array Value) (o : Array Obj) (n : Nat), i ≤ ls.length ∧ (i : Int) ≤ x.n ∧ c = .int .i64 i ∧ wr = ext (upd V g cs) o n ∧ CF cs (VecMwriteTo x ls i)) (fun c _ => ls.length - (intOf c).toNat)
  case atStart =>
    obtain ⟨cs, h1, h2⟩ := hFV.self
    exact ⟨0, cs, #[], _, Nat.zero_le _, Hn.out.1, rfl, by rw [h1]; exact ext_zero.symm, by simpa [writes, VecMwriteTo] using h2⟩
  case round =>
    obtain ⟨i, cs, o2, n2, hi, hi2, rfl, hwr, hcs⟩ := hrel
    subst hwr
    by_cases hlt : (i : Int) < x.n
    · by_cases hlt2 : i < ls.length
      · have hp := VecM.right_place Hx.out hlt
        have hn2 := Hn2.out
        have hN := Hn.out
        have h2 : IntKind.i64.wrap (i * x.inc) = i * x.inc := IntWalk.i64_in _ (by omega)
        have h3 : IntKind.i64.wrap (x.off + i * x.inc) = x.off + i * x.inc := IntWalk.i64_in _ (by omega)
        have hlen : (VecMwriteTo x ls i).length = x.ws.length := by simp [VecMwriteTo]
        have fz : ∀ i, V.frozen? ⟨g, i, none⟩ = false := hFV.notFrozen
        obtain ⟨r0, hr0, _⟩ := (hFV.mk' hcs o2 n2).get (i := x.place i) (by rw [hlen]; unfold VecM.place; omega)
        have hr1 := (cell_ext (by simpa using gl)).symm.trans hr0
        unfold VecM.place at hr1
        obtain ⟨blk, o, rfl, hblk, hc⟩ := hLW.at.2 (by omega)
        obtain ⟨b, hb0, hf⟩ := hc i hlt2
        have hb := (gV.cell hblk).trans hb0
        have qb : blk ≠ g := by omega
        have kb : blk < V.heap.size := by omega
        clear hb0 hc hr0
        go_wp2
        refine wp_region_R (Over V g) [] [(0,0), (0,1), (0,2), (0,3), (0,4), (0,5), (0,6), (0,7), (0,8), (0,9), (0,10), (0,11), (0,12), (1,13)] (by kernel_rfl) (by kernel_rfl) (fun _ _ _ _ h _ => h) ⟨_, _, _, ext_drew⟩ ?_
        go_wp2_with (first | ((with_reducible refine wpR_id ?_); first | (refine wpR_take (v := ?_) rfl rfl ?_ ?_; rotate_left; (focus (rintro w' ⟨cs', o', n', rfl⟩; go_simp; try with_reducible rfl)); simp only [Act.put, List.setIfInBounds_toArray, List.set_cons_zero, List.set_cons_succ]) | (refine wpR_pure (v := ?_) rfl rfl ?_ ?_; rotate_left; (focus (intro w'; go_simp; try with_reducible rfl)); simp only [Act.put, List.setIfInBounds_toArray, List.set_cons_zero, List.set_cons_succ]) | (refine wpR_takeG (v := ?_) rfl rfl rfl rfl rfl ?_ ?_; rotate_left; (focus (rintro w' ⟨cs', o', n', rfl⟩; go_simp; try with_reducible rfl)); simp only [Act.put, List.setIfInBounds_toArray, List.set_cons_zero, List.set_cons_succ]) | (refine wpR_skip rfl rfl rfl rfl rfl rfl ?_; simp only [Act.put, List.setIfInBounds_toArray, List.set_cons_zero, List.set_cons_succ]) | (refine wpR_skipU rfl rfl rfl rfl rfl ?_; simp only [Act.put, List.setIfInBounds_toArray, List.set_cons_zero, List.set_cons_succ]) | (refine wpR_do rfl rfl (fun K hK => ?_)) | (refine wpR_doG rfl rfl rfl rfl rfl (fun K hK => ?_)) | (refine wpR_last rfl rfl (fun K hK => ?_)) | (refine wpR_nil ?_)) | ((with_reducible refine wpR_go ?_ ?_); (focus exact ⟨_, _, _, rfl⟩)) | ((with_reducible refine upon_id ?_); refine upon_fop rfl (by assumption) (by assumption) ?_; intro rr nn hr))
        go_roundw
        case rel =>
          refine ⟨i + 1, _, _, _, by omega, by omega, by go_num, rfl, ?_⟩
          have h8 := hcs.set (i := x.place i) hf
          unfold VecMwriteTo at h8 ⊢; unfold writes
          exact h8
        case measure => simp [intOf]; omega
      · have e : min x.n.toNat ls.length = i := by omega
        have hlen : (VecMwrite x ls).length = x.ws.length := by simp [VecMwrite, VecMwriteTo]
        have hfw : FW (ext (upd V g cs) o2 n2) g (VecMwrite x ls) := by unfold VecMwrite; rw [e]; exact hFV.mk' hcs _ _
        have gu : Grew w (upd V g cs) := (g0.trans gV).upd (by omega) cs
        go_wp2
        go_ret
        exact ⟨_, rfl, ⟨g, cap, by rw [hlen]; rfl, by omega, by (repeat (first | (with_reducible assumption) | ((with_reducible refine FW.ext_set ?_ ?_ ?_ _); rotate_left; (focus (simp only [size_setCell', World.size_alloc, size_ext, size_upd]; omega)); (focus (dsimp only; omega))) | ((with_reducible refine FW.setCell_ne ?_ ?_ _); rotate_left; (focus (dsimp only; omega))) | (with_reducible refine FW.ext ?_ _ _) | (with_reducible refine FW.alloc ?_ _))), by omega⟩, by (show Grew _ _; repeat (first | (with_reducible exact Grew.refl _) | (with_reducible assumption) | (with_reducible refine Grew.ext ?_ _ _) | (with_reducible refine Grew.alloc ?_ _) | ((with_reducible refine Grew.setCell ?_ ?_ _); rotate_left; (focus (dsimp only; first | omega | (simp only [size_ext, World.size_alloc, Array.size_append]; omega)))) | (with_reducible refine Grew.drewN ?_ _) | (with_reducible refine Grew.drew ?_)))⟩
    · have e : min x.n.toNat ls.length = i := by omega
      have hlen : (VecMwrite x ls).length = x.ws.length := by simp [VecMwrite, VecMwriteTo]
      have hfw : FW (ext (upd V g cs) o2 n2) g (VecMwrite x ls) := by unfold VecMwrite; rw [e]; exact hFV.mk' hcs _ _
      have gu : Grew w (upd V g cs) := (g0.trans gV).upd (by omega) cs
      go_wp2
      go_ret
      exact ⟨_, rfl, ⟨g, cap, by rw [hlen]; rfl, by omega, by (repeat (first | (with_reducible assumption) | ((with_reducible refine FW.ext_set ?_ ?_ ?_ _); rotate_left; (focus (simp only [size_setCell', World.size_alloc, size_ext, size_upd]; omega)); (focus (dsimp only; omega))) | ((with_reducible refine FW.setCell_ne ?_ ?_ _); rotate_left; (focus (dsimp only; omega))) | (with_reducible refine FW.ext ?_ _ _) | (with_reducible refine FW.alloc ?_ _))), by omega⟩, by (show Grew _ _; repeat (first | (with_reducible exact Grew.refl _) | (with_reducible assumption) | (with_reducible refine Grew.ext ?_ _ _) | (with_reducible refine Grew.alloc ?_ _) | ((with_reducible refine Grew.setCell ?_ ?_ _); rotate_left; (focus (dsimp only; first | omega | (simp only [size_ext, World.size_alloc, Array.size_append]; omega)))) | (with_reducible refine Grew.drewN ?_ _) | (with_reducible refine Grew.drew ?_)))⟩
end Go.Proofs.Ytcmggfpcbijcjaa
