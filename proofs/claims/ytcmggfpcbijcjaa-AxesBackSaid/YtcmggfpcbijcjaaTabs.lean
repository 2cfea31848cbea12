/-
  Contracts: the reference's tables (layer 3): a number, of a matrix, into a list; lists of a vector.
-/
import Derived.Test.YtcmggfpcbijcjaaLists
set_option linter.unusedSimpArgs false
set_option linter.unusedVariables false
open Go Go.RowKit
namespace Sedge
def MatM.place (m : MatM) (i j : Nat) : Nat := (m.off + i + j * m.ld).toNat
def MatM.num (m : MatM) (i j : Nat) : Nat := m.ws.getD (m.place i j) 0
theorem MatM.good_n {m : MatM} (h : m.good = true) : 0 ≤ m.rows ∧ 0 ≤ m.cols ∧ 0 ≤ m.off ∧ 1 ≤ m.ld ∧ m.rows ≤ m.ld := by
  simp [MatM.good] at h; omega
/-- A good matrix' places lie in its list. -/
theorem MatM.good_place {m : MatM} (h : m.good = true) {i j : Nat} (hi : (i : Int) < m.rows) (hj : (j : Int) < m.cols) :
    0 ≤ m.off + i + j * m.ld ∧ m.off + i + j * m.ld < m.ws.length ∧ 0 ≤ (j : Int) * m.ld := by
  have h0 := MatM.good_n h
  simp [MatM.good, fitsB] at h
  have h1 : m.off + (m.cols - 1) * m.ld + (m.rows - 1) < m.ws.length := by
    rcases h.2 with h2 | h2 <;> omega
  have h2 : (j : Int) * m.ld ≤ (m.cols - 1) * m.ld := Int.mul_le_mul_of_nonneg_right (by omega) (by omega)
  have h3 : 0 ≤ (j : Int) * m.ld := Int.mul_nonneg (by omega) (by omega)
  omega
/-- A matrix' numbers, row by row. -/
def MatM.tabTo (m : MatM) (k : Nat) : List Nat := writes (List.replicate (m.rows.toNat * m.cols.toNat) 0) id (fun t => m.num (t / m.cols.toNat) (t % m.cols.toNat)) k
def MatM.tab (m : MatM) : List Nat := m.tabTo (m.rows.toNat * m.cols.toNat)
/-- The list as it is when a table's numbers are in it. -/
def MatM.intoTo (m : MatM) (R C : Nat) (t : List Nat) (k : Nat) : List Nat := writes m.ws (fun t => m.place (t / C) (t % C)) (fun k => t.getD k 0) k
def MatM.into (m : MatM) (R C : Nat) (t : List Nat) : List Nat := m.intoTo R C t (R * C)
theorem at_div {i j C : Nat} (h : j < C) : (i * C + j) / C = i ∧ (i * C + j) % C = j := by
  constructor
  · rw [Nat.mul_comm, Nat.mul_add_div (by omega), Nat.div_eq_of_lt h]; omega
  · rw [Nat.mul_comm, Nat.mul_add_mod, Nat.mod_eq_of_lt h]
theorem at_lt {i j R C : Nat} (hi : i < R) (hj : j < C) : i * C + j < R * C := by
  have : (i + 1) * C ≤ R * C := Nat.mul_le_mul_right C hi
  rw [Nat.succ_mul] at this; omega
end Sedge
open Sedge
namespace Go.Proofs.Ytcmggfpcbijcjaa
/-- (M).At of the reference. -/
theorem rat_any (R C i j : Nat) (A : Value) (ws : List Nat) (w : World) (hA : FS w A ws) (hR : R ≤ 1000) (hC : C ≤ 1000) (hi : i ≤ 1000) (hj : j ≤ 1000) (hl : i * C + j < ws.length) :
   Calls Try.prog 72 #[.agg #[.int .i64 R, .int .i64 C, A], .int .i64 i, .int .i64 j] w (fun e w' => ∃ b, e = .returned (.float .f64 b) ∧ IsF b (ws.getD (i * C + j) 0) ∧ ∃ o n, w' = ext w o n) := by
  obtain ⟨blk, o, cap, rfl, hlt, hc⟩ := hA.open (by omega)
  obtain ⟨b, hb, hf⟩ := hc (i * C + j) hl
  have hm : i * C ≤ 1000 * 1000 := Nat.mul_le_mul hi hC
  have e0 : ((i : Int) * (C : Int)).toNat = i * C := by rw [← Int.natCast_mul]; rfl
  have e1 : ((i : Int) * (C : Int) + (j : Int)).toNat = i * C + j := by rw [← Int.natCast_mul]; omega
  have h0 : 0 ≤ (i : Int) * C := by rw [← Int.natCast_mul]; omega
  have h1 : (i : Int) * C ≤ 1000000 := by rw [← Int.natCast_mul]; omega
  have h4 : (i : Int) * C + j < ws.length := by rw [← Int.natCast_mul]; omega
  have h2 : IntKind.i64.wrap ((i : Int) * C) = (i : Int) * C := IntWalk.i64_in _ (by omega)
  have h3 : IntKind.i64.wrap ((i : Int) * C + j) = (i : Int) * C + j := IntWalk.i64_in _ (by omega)
  clear hc e0 hm
  go_enter Try.func72, Try.ntmps72
  go_wp2
  go_ret
  exact ⟨b, rfl, hf, (Grew.refl _).alloc _⟩
/-- (M).Set of the reference. -/
theorem rset_any (R C i j g cap len r x : Nat) (ws : List Nat) (w : World) (hF : FW w g ws) (hr : IsF r x) (hlen : len = ws.length) (hR : R ≤ 1000) (hC : C ≤ 1000) (hi : i ≤ 1000) (hj : j ≤ 1000) (hl : i * C + j < ws.length) :
   Calls Try.prog 134 #[.agg #[.int .i64 R, .int .i64 C, .slice (some ⟨g, 0, none⟩) len cap], .int .i64 i, .int .i64 j, .float .f64 r] w
     (fun e w' => e = .returned (.tuple #[]) ∧ Wrote w w' g (ws.set (i * C + j) x)) := by
  have hm : i * C ≤ 1000 * 1000 := Nat.mul_le_mul hi hC
  have e1 : ((i : Int) * (C : Int) + (j : Int)).toNat = i * C + j := by rw [← Int.natCast_mul]; omega
  have h0 : 0 ≤ (i : Int) * C := by rw [← Int.natCast_mul]; omega
  have h1 : (i : Int) * C ≤ 1000000 := by rw [← Int.natCast_mul]; omega
  have h4 : (i : Int) * C + j < len := by rw [← Int.natCast_mul]; omega
  have h2 : IntKind.i64.wrap ((i : Int) * C) = (i : Int) * C := IntWalk.i64_in _ (by omega)
  have h3 : IntKind.i64.wrap ((i : Int) * C + j) = (i : Int) * C + j := IntWalk.i64_in _ (by omega)
  have hlt := hF.lt
  clear hm
  go_enter Try.func134, Try.ntmps134
  refine seq_stop ?_
  go_wp2
  refine stop_go (fun W hW => ?_)
  have s1 : w.heap.size < W.heap.size := by rw [hW]; simp only [World.size_alloc]; omega
  have b1 : ∀ i, W.cell? ⟨w.heap.size, i, none⟩ = (#[.int .i64 R, .int .i64 C, .slice (some ⟨g, 0, none⟩) len cap] : Array Value)[i]? := by intro i; rw [hW]; go_simp
  have g0 : Grew w W := by rw [hW]; exact (Grew.refl _).alloc _
  clear hW
  have hFW := hF.grew g0
  have fz := hFW.notFrozen
  obtain ⟨cs, hs, hcs⟩ := hFW.set (k := i * C + j) hr
  obtain ⟨r0, hr0, _⟩ := hFW.get hl
  have hlW := hFW.lt
  go_wp2
  go_end0
  exact ⟨rfl, Wrote.grew_l g0 hlt (⟨cs, #[], _, ext_zero.symm, hcs⟩)⟩
set_option maxRecDepth 100000 in
set_option maxHeartbeats 1000000 in
/-- straightedgeref03.Of. -/
theorem rof_any (x : MatM) (D : Value) (w : World) (hD : FS w D x.ws) (hx : x.good = true) (hr : x.rows ≤ 1000) (hc : x.cols ≤ 1000) (hl : x.ws.length ≤ 1000000) (hwf : x.wf) :
   Calls Try.prog 48 #[.agg #[D, .int .i64 x.off, .int .i64 x.rows, .int .i64 x.cols, .int .i64 x.ld]] w
     (fun e w' => ∃ v, e = .returned (.agg #[.int .i64 x.rows, .int .i64 x.cols, v]) ∧ WS w' w.heap.size v x.tab ∧ ∃ o n, w' = ext w o n) := by
  have hn := MatM.good_n hx
  obtain ⟨R, hR⟩ : ∃ R : Nat, x.rows = R := ⟨x.rows.toNat, by omega⟩
  obtain ⟨C, hC⟩ : ∃ C : Nat, x.cols = C := ⟨x.cols.toNat, by omega⟩
  rw [hR, hC]
  have hRn : R ≤ 1000 := by omega
  have hCn : C ≤ 1000 := by omega
  have hm : R * C ≤ 1000 * 1000 := Nat.mul_le_mul hRn hCn
  have htab : ∀ k, x.tabTo k = writes (List.replicate (R * C) 0) id (fun t => x.num (t / C) (t % C)) k := by
    intro k; unfold MatM.tabTo; rw [show x.rows.toNat = R by omega, show x.cols.toNat = C by omega]
  have hRC : x.rows.toNat * x.cols.toNat = R * C := by rw [show x.rows.toNat = R by omega, show x.cols.toNat = C by omega]
  have Hx := hid hx
  have Hn := hid hn
  have Hm := hid hm
  have HR := hid hR
  have HC := hid hC
  have HT := hid htab
  have HRC := hid hRC
  clear hx hn hm hr hc hwf htab hRC hR hC
  go_enter Try.func48, Try.ntmps48
  refine seq_stop ?_
  go_wp2
  refine stop_go (fun W hW => ?_)
  have s1 : w.heap.size < W.heap.size := by rw [hW]; simp only [World.size_alloc]; omega
  have b1 : ∀ i, W.cell? ⟨w.heap.size, i, none⟩ = (#[D, .int .i64 x.off, .int .i64 R, .int .i64 C, .int .i64 x.ld] : Array Value)[i]? := by intro i; rw [hW]; go_simp
  have f1 : ∀ i, W.frozen? ⟨w.heap.size, i, none⟩ = false := by intro i; rw [hW]; go_simp
  have s2 : w.heap.size + 1 < W.heap.size := by rw [hW]; simp only [World.size_alloc]; omega
  have b2 : ∀ i, W.cell? ⟨w.heap.size + 1, i, none⟩ = (#[.int .i64 0, .int .i64 0, .slice none 0 0] : Array Value)[i]? := by intro i; rw [hW]; go_simp
  have f2 : ∀ i, W.frozen? ⟨w.heap.size + 1, i, none⟩ = false := by intro i; rw [hW]; go_simp
  have g0 : Grew w W := by rw [hW]; exact ((Grew.refl _).alloc _).alloc _
  clear hW
  have hDW : FS W D x.ws := hD.grew g0
  go_wp2_with (first | (go_at_call 68; ((with_reducible refine (rnew_any R C _ hRn hCn).mono ?_); rintro e w1 ⟨v, rfl, ⟨g, cap, rfl, hg, hF, hgl⟩, o1, n1, rfl⟩)))
  refine name_any (fun V hV => ?_)
  have gV : Grew W V := by rw [← hV]; (show Grew _ _; repeat (first | (with_reducible exact Grew.refl _) | (with_reducible assumption) | (with_reducible refine Grew.ext ?_ _ _) | (with_reducible refine Grew.alloc ?_ _) | ((with_reducible refine Grew.setCell ?_ ?_ _); rotate_left; (focus (dsimp only; first | omega | (simp only [size_ext, World.size_alloc, Array.size_append]; omega)))) | (with_reducible refine Grew.drewN ?_ _) | (with_reducible refine Grew.drew ?_)))
  have sV := gV.below.size
  have k1 : w.heap.size < V.heap.size := by omega
  have k2 : w.heap.size + 1 < V.heap.size := by omega
  have k3 : W.heap.size + o1.size < V.heap.size := by rw [← hV]; simp only [World.size_alloc, size_ext]; omega
  have c1 : ∀ i, V.cell? ⟨w.heap.size, i, none⟩ = (#[D, .int .i64 x.off, .int .i64 R, .int .i64 C, .int .i64 x.ld] : Array Value)[i]? := fun i => (gV.cell s1).trans (b1 i)
  have c2 : ∀ i, V.cell? ⟨w.heap.size + 1, i, none⟩ = (#[.int .i64 0, .int .i64 0, .slice none 0 0] : Array Value)[i]? := fun i => (gV.cell s2).trans (b2 i)
  have z2 : ∀ i, V.frozen? ⟨w.heap.size + 1, i, none⟩ = false := fun i => (gV.frozen s2).trans (f2 i)
  have c3 : ∀ i, V.cell? ⟨W.heap.size + o1.size, i, none⟩ = (#[.int .i64 R, .int .i64 C, .slice (some ⟨g, 0, none⟩) (R * C) cap] : Array Value)[i]? := by subst hV; intro i; go_simp
  have hFV : FW V g (List.replicate (R * C) 0) := by rw [← hV]; (repeat (first | (with_reducible assumption) | ((with_reducible refine FW.ext_set ?_ ?_ ?_ _); rotate_left; (focus (simp only [size_setCell', World.size_alloc, size_ext, size_upd]; omega)); (focus (dsimp only; omega))) | ((with_reducible refine FW.setCell_ne ?_ ?_ _); rotate_left; (focus (dsimp only; omega))) | (with_reducible refine FW.ext ?_ _ _) | (with_reducible refine FW.alloc ?_ _)))
  have gl := hFV.lt
  have q1 : w.heap.size ≠ g := by omega
  have q2 : w.heap.size + 1 ≠ g := by omega
  have q3 : W.heap.size + o1.size ≠ g := by have := hF.lt; simp only [size_ext] at this; omega
  clear hV b1 f1 b2 f2 hD
  go_loopw [4] (fun c wr => ∃ (i : Nat) (cs : Array Value) (o : Array Obj) (n : Nat), i ≤ R ∧ c = .int .i64 i ∧ wr = ext (upd V g cs) o n ∧ CF cs (writes (List.replicate (R * C) 0) id (fun t => x.num (t / C) (t % C)) (i * C))) (fun c _ => R - (intOf c).toNat)
  case atStart =>
    obtain ⟨cs, h1, h2⟩ := hFV.self
    exact ⟨0, cs, #[], _, Nat.zero_le _, rfl, by rw [h1]; exact ext_zero.symm, by simpa [writes] using h2⟩
  case round =>
    obtain ⟨i, cs, o2, n2, hi, rfl, hwr, hcs⟩ := hrel
    subst hwr
    by_cases hlt : i < R
    · go_wp2
      go_loopw [5] (fun c wr => ∃ (j : Nat) (cs : Array Value) (o : Array Obj) (n : Nat), j ≤ C ∧ c = .int .i64 j ∧ wr = ext (upd V g cs) o n ∧ CF cs (writes (List.replicate (R * C) 0) id (fun t => x.num (t / C) (t % C)) (i * C + j))) (fun c _ => C - (intOf c).toNat)
      case atStart => exact ⟨0, cs, o2, n2, Nat.zero_le _, rfl, rfl, hcs⟩
      case round =>
        obtain ⟨j, cs, o3, n3, hj, rfl, hwr, hcs⟩ := hrel
        subst hwr
        by_cases hltj : j < C
        · have hp := MatM.good_place Hx.out (i := i) (j := j) (by have := HR.out; omega) (by have := HC.out; omega)
          have hn := Hn.out
          obtain ⟨blk, o, cap', rfl, hblk, hc⟩ := hDW.open (by omega)
          obtain ⟨b, hb0, hf⟩ := hc (x.place i j) (by unfold MatM.place; omega)
          have hb := (gV.cell hblk).trans hb0
          unfold MatM.place at hb
          have qb : blk ≠ g := by omega
          have kb : blk < V.heap.size := by omega
          have hf' : IsF b (x.num i j) := hf
          clear hb0
          have h2 : IntKind.i64.wrap (j * x.ld) = j * x.ld := IntWalk.i64_in _ (by omega)
          have h3 : IntKind.i64.wrap (x.off + i) = x.off + i := IntWalk.i64_in _ (by omega)
          have h4 : IntKind.i64.wrap (x.off + i + j * x.ld) = x.off + i + j * x.ld := IntWalk.i64_in _ (by omega)
          clear hc
          have hat := at_lt hlt hltj
          have hfw : FW (ext (upd V g cs) o3 n3) g (writes (List.replicate (R * C) 0) id (fun t => x.num (t / C) (t % C)) (i * C + j)) := hFV.mk' hcs _ _
          have hlen : (writes (List.replicate (R * C) 0) id (fun t => x.num (t / C) (t % C)) (i * C + j)).length = R * C := by simp
          go_wp2
          refine wp_region_R (Over V g) [] [(0,0), (0,1), (0,2), (0,3), (0,4), (0,5), (0,6), (0,7), (0,8), (0,9), (0,10), (0,11), (0,12), (0,13), (0,14), (0,15), (1,16)] (by kernel_rfl) (by kernel_rfl) (fun _ _ _ _ h _ => h) ⟨_, _, _, ext_drew⟩ ?_
          go_wp2_with (first | ((with_reducible refine wpR_id ?_); first | (refine wpR_take (v := ?_) rfl rfl ?_ ?_; rotate_left; (focus (rintro w' ⟨cs', o', n', rfl⟩; go_simp; try with_reducible rfl)); simp only [Act.put, List.setIfInBounds_toArray, List.set_cons_zero, List.set_cons_succ]) | (refine wpR_pure (v := ?_) rfl rfl ?_ ?_; rotate_left; (focus (intro w'; go_simp; try with_reducible rfl)); simp only [Act.put, List.setIfInBounds_toArray, List.set_cons_zero, List.set_cons_succ]) | (refine wpR_takeG (v := ?_) rfl rfl rfl rfl rfl ?_ ?_; rotate_left; (focus (rintro w' ⟨cs', o', n', rfl⟩; go_simp; try with_reducible rfl)); simp only [Act.put, List.setIfInBounds_toArray, List.set_cons_zero, List.set_cons_succ]) | (refine wpR_skip rfl rfl rfl rfl rfl rfl ?_; simp only [Act.put, List.setIfInBounds_toArray, List.set_cons_zero, List.set_cons_succ]) | (refine wpR_skipU rfl rfl rfl rfl rfl ?_; simp only [Act.put, List.setIfInBounds_toArray, List.set_cons_zero, List.set_cons_succ]) | (refine wpR_do rfl rfl (fun K hK => ?_)) | (refine wpR_doG rfl rfl rfl rfl rfl (fun K hK => ?_)) | (refine wpR_last rfl rfl (fun K hK => ?_)) | (refine wpR_nil ?_)) | ((with_reducible refine wpR_go ?_ ?_); (focus exact ⟨_, _, _, rfl⟩)) | ((with_reducible refine upon_id ?_); refine upon_fop rfl (by assumption) (by assumption) ?_; intro rr nn hr) | (go_at_call 134; ((with_reducible refine (rset_any R C i j g cap (R * C) b (x.num i j) _ _ (hFV.mk' hcs _ _) hf' hlen.symm hRn hCn (by omega) (by omega) (by rw [hlen]; exact hat)).mono ?_); rintro e w1 ⟨rfl, hw⟩; obtain ⟨cs2, o4, n4, rfl, hcs2⟩ := Wrote.trans ⟨cs, _, _, rfl, hcs⟩ gl hw)))
          go_roundw
          case rel =>
            refine ⟨j + 1, cs2, o4, n4, by omega, by go_num, rfl, ?_⟩
            have e : i * C + (j + 1) = i * C + j + 1 := by omega
            rw [e]; unfold writes
            rw [(at_div hltj).1, (at_div hltj).2]; exact hcs2
          case measure => simp [intOf]; omega
        · have e : C = j := by omega
          go_wp2
          go_roundw
          case rel => exact ⟨i + 1, cs, _, _, by omega, by go_num, rfl, by rw [Nat.succ_mul, e]; rw [e] at hcs; exact hcs⟩
          case measure => simp [intOf]; omega
    · have e : R = i := by omega
      have ht : x.tab = writes (List.replicate (R * C) 0) id (fun t => x.num (t / C) (t % C)) (R * C) := by unfold MatM.tab; rw [HRC.out]; exact HT.out _
      subst e
      have hlen : x.tab.length = R * C := by rw [ht]; simp
      have hfw : FW (ext (upd V g cs) o2 n2) g x.tab := by rw [ht]; exact hFV.mk' hcs _ _
      have gu : Grew w (upd V g cs) := (g0.trans gV).upd (by omega) cs
      go_wp2
      refine bodyPost_ret (v := .agg #[.int .i64 R, .int .i64 C, .slice (some ⟨g, 0, none⟩) (R * C) cap]) (by simp [results, Try.results48, go_sem, *]) rfl ?_
      exact ⟨_, rfl, ⟨g, cap, by rw [hlen], by omega, by (repeat (first | (with_reducible assumption) | ((with_reducible refine FW.ext_set ?_ ?_ ?_ _); rotate_left; (focus (simp only [size_setCell', World.size_alloc, size_ext, size_upd]; omega)); (focus (dsimp only; omega))) | ((with_reducible refine FW.setCell_ne ?_ ?_ _); rotate_left; (focus (dsimp only; omega))) | (with_reducible refine FW.ext ?_ _ _) | (with_reducible refine FW.alloc ?_ _))), by have := Hm.out; omega⟩, by (show Grew _ _; repeat (first | (with_reducible exact Grew.refl _) | (with_reducible assumption) | (with_reducible refine Grew.ext ?_ _ _) | (with_reducible refine Grew.alloc ?_ _) | ((with_reducible refine Grew.setCell ?_ ?_ _); rotate_left; (focus (dsimp only; first | omega | (simp only [size_ext, World.size_alloc, Array.size_append]; omega)))) | (with_reducible refine Grew.drewN ?_ _) | (with_reducible refine Grew.drew ?_)))⟩
end Go.Proofs.Ytcmggfpcbijcjaa
