/-
  Texts laid one behind the other (a claim has at most 60 files): Dense, DenseC, RnewC, LacQ, Aw20, Dy2, Dy3, Dy4, Dy5, Dy6, Dy7, Dig2.
-/
import Derived.Deep.CutBlock
import Derived.Deep.DeepCutAuto
import Derived.Test.YtcmggfpcbijcjaaQLacnBelow1
import Derived.Test.YtcmggfpcbijcjaaQLacnBelow2
import Derived.Test.YtcmggfpcbijcjaaQLacnBelow3
import Derived.Test.YtcmggfpcbijcjaaQLacnBelow4
import Derived.Test.YtcmggfpcbijcjaaQLacnBelow5
section
/-
  Contract: view.Dense with its numbers written out; the example of layer 4.
-/
set_option linter.unusedSimpArgs false
set_option linter.unusedVariables false
open Go Go.RowKit Sedge
namespace Go.Proofs.Ytcmggfpcbijcjaa
/-- The list that Dense makes. -/
def denseTo (r c : Nat) (l : List Nat) (k : Nat) : List Nat := writes (List.replicate (r * c) 0) (fun k => k / c + k % c * r) (fun k => l.getD k 0) k
def denseL (r c : Nat) (l : List Nat) : List Nat := denseTo r c l (min l.length (r * c))
set_option maxRecDepth 100000 in
set_option maxHeartbeats 1000000 in
/-- view.Dense, of sizes within 64. -/
theorem dense_any (r c : Nat) (aL : Option Addr) (ls : List Nat) (w : World) (hL : FS w (.slice aL ls.length ls.length) ls) (hr : r ≤ 64) (hc : c ≤ 64) (hr1 : 1 ≤ r) (hc1 : 1 ≤ c) (hlen : ls.length = r * c) :
   Calls Try.prog 69 #[.int .i64 r, .int .i64 c, .slice aL ls.length ls.length] w (fun e w' => ∃ v, e = .returned (.agg #[v, .int .i64 0, .int .i64 r, .int .i64 c, .int .i64 r]) ∧ WS w' w.heap.size v (denseL r c ls) ∧ ∃ o n, w' = ext w o n) := by
  have hm : r * c ≤ 64 * 64 := Nat.mul_le_mul hr hc
  have h2 : IntKind.i64.wrap ((r : Int) * c) = (r : Int) * c := IntWalk.i64_in _ (by rw [← Int.natCast_mul]; omega)
  have hlL := hL.len
  have d1 : decide ((r : Int) < 0) = false := by simp
  have d2 : decide ((c : Int) < 0) = false := by simp
  have d3 : decide ((64 : Int) < (r : Int)) = false := by simp; omega
  have d4 : decide ((64 : Int) < (c : Int)) = false := by simp; omega
  have d5 : (ls.length : Int) = (r : Int) * c := by rw [hlen, Int.natCast_mul]
  have d6 : decide ((1 : Int) ≤ (r : Int)) = true := by simp; omega
  go_enter Try.func69, Try.ntmps69
  refine seq_stop ?_
  go_wp2
  refine stop_go (fun W hW => ?_)
  have s1 : w.heap.size < W.heap.size := by rw [hW]; simp only [World.size_alloc]; omega
  have b1 : ∀ i, W.cell? ⟨w.heap.size, i, none⟩ = (#[.slice none 0 0, .int .i64 0, .int .i64 0, .int .i64 0, .int .i64 0] : Array Value)[i]? := by intro i; rw [hW]; go_simp
  have f1 : ∀ i, W.frozen? ⟨w.heap.size, i, none⟩ = false := by intro i; rw [hW]; go_simp
  have g0 : Grew w W := by rw [hW]; exact (Grew.refl _).alloc _
  clear hW
  have hLW : FS W (.slice aL ls.length ls.length) ls := hL.grew g0
  go_wp2_with (at_make; refine make_f (L := (r : Int) * (c : Int)) finfo (Grew.refl W) _ _ rfl rfl (r * c) (Int.natCast_mul r c).symm rfl rfl (by omega) ?_; intro oo nn k hk ho; have hF := ho.made)
  refine name_any (fun V hV => ?_)
  have gV : Grew W V := by rw [← hV]; (show Grew _ _; repeat (first | (with_reducible exact Grew.refl _) | (with_reducible assumption) | (with_reducible exact Grew.same_o) | (with_reducible exact Grew.app_o) | (with_reducible refine Grew.ext ?_ _ _) | (with_reducible refine Grew.alloc ?_ _) | ((with_reducible refine Grew.setCell ?_ ?_ _); rotate_left; (focus (dsimp only; first | omega | (simp only [size_ext, World.size_alloc, Array.size_append]; omega)))) | (with_reducible refine Grew.drewN ?_ _) | (with_reducible refine Grew.drew ?_)))
  have sV := gV.below.size
  have k1 : w.heap.size < V.heap.size := by omega
  have k3 : W.heap.size + oo.size < V.heap.size := by rw [← hV]; simp only [World.size_alloc, size_ext]; omega
  have c1 : ∀ i, V.cell? ⟨w.heap.size, i, none⟩ = (#[.slice none 0 0, .int .i64 0, .int .i64 0, .int .i64 0, .int .i64 0] : Array Value)[i]? := fun i => (gV.cell s1).trans (b1 i)
  have z1 : ∀ i, V.frozen? ⟨w.heap.size, i, none⟩ = false := fun i => (gV.frozen s1).trans (f1 i)
  have c3 : ∀ i, V.cell? ⟨W.heap.size + oo.size, i, none⟩ = (#[.slice (some ⟨k, 0, none⟩) (r * c) (r * c), .int .i64 0, .int .i64 r, .int .i64 c, .int .i64 r] : Array Value)[i]? := by subst hV; intro i; go_simp
  have hFV : FW V k (List.replicate (r * c) 0) := by rw [← hV]; (repeat (first | (with_reducible assumption) | ((with_reducible refine FW.ext_set ?_ ?_ ?_ _); rotate_left; (focus (simp only [size_setCell', World.size_alloc, size_ext, size_upd]; omega)); (focus (dsimp only; omega))) | ((with_reducible refine FW.setCell_ne ?_ ?_ _); rotate_left; (focus (dsimp only; omega))) | (with_reducible refine FW.ext ?_ _ _) | (with_reducible refine FW.alloc ?_ _)))
  have hLV : FS V (.slice aL ls.length ls.length) ls := hLW.grew gV
  have gl := hFV.lt
  have q1 : w.heap.size ≠ k := by omega
  have q3 : W.heap.size + oo.size ≠ k := by have := hF.lt; simp only [size_ext] at this; omega
  have HL := hid hlen
  clear hV b1 f1 hL ho
  go_loopw [43] (fun s wr => ∃ (i : Nat) (cs : Array Value) (o : Array Obj) (n : Nat), i ≤ r * c ∧ s = .int .i64 i ∧ wr = ext (upd V k cs) o n ∧ CF cs (denseTo r c ls i)) (fun s _ => r * c - (intOf s).toNat)
  case atStart =>
    obtain ⟨cs, h1, h2⟩ := hFV.self
    exact ⟨0, cs, #[], _, Nat.zero_le _, rfl, by rw [h1]; exact ext_zero.symm, h2⟩
  case round =>
    obtain ⟨i, cs, o2, n2, hi, rfl, hwr, hcs⟩ := hrel
    subst hwr
    by_cases hlt : i < r * c
    · have e1 : i / c < r := by rw [Nat.div_lt_iff_lt_mul (by omega)]; exact hlt
      have e2 : i % c < c := Nat.mod_lt _ (by omega)
      have e3 : i % c * r + r ≤ c * r := by have := Nat.mul_le_mul_right r e2; rw [Nat.succ_mul] at this; exact this
      have e4 : c * r = r * c := Nat.mul_comm c r
      obtain ⟨p, hp⟩ : ∃ p : Nat, p = i / c := ⟨_, rfl⟩
      obtain ⟨q, hq⟩ : ∃ q : Nat, q = i % c := ⟨_, rfl⟩
      rw [← hp] at e1
      rw [← hq] at e2 e3
      have hq1 : (i : Int).tdiv c = (p : Int) := by rw [hp]; rfl
      have hq2 : (i : Int).tmod c = (q : Int) := by rw [hq]; rfl
      have hq3 : (i : Int) / c = (p : Int) := by rw [hp]; rfl
      have hq4 : (i : Int) % c = (q : Int) := by rw [hq]; rfl
      have m0 : (q : Int) * r = ((q * r : Nat) : Int) := (Int.natCast_mul q r).symm
      have w1 : IntKind.i64.wrap ((q : Int) * r) = (q : Int) * r := IntWalk.i64_in _ (by omega)
      have w2 : IntKind.i64.wrap ((p : Int) + (q : Int) * r) = (p : Int) + (q : Int) * r := IntWalk.i64_in _ (by omega)
      have n0 : ((p : Int) + (q : Int) * r).toNat = p + q * r := by omega
      have n1 : 0 ≤ (p : Int) + (q : Int) * r := by omega
      have n3 : (p : Int) + (q : Int) * r < ((r * c : Nat) : Int) := by omega
      have n2' : (c : Int) ≠ 0 := by omega
      have n6 : (p : Int) + (q : Int) * r < (r : Int) * c := by rw [← Int.natCast_mul r c]; exact n3
      have n8 : p + q * r < r * c := by omega
      have n5 : ¬ c = 0 := by omega
      have w0 : IntKind.i64.wrap (p : Int) = p := IntWalk.i64_in _ (by omega)
      have w3 : IntKind.i64.wrap (q : Int) = q := IntWalk.i64_in _ (by omega)
      have n4 : ((c : Int) == 0) = false := by simp; omega
      have fz : ∀ i, V.frozen? ⟨k, i, none⟩ = false := hFV.notFrozen
      have hlen2 : (denseTo r c ls i).length = r * c := by simp [denseTo]
      obtain ⟨r0, hr0, _⟩ := (hFV.mk' hcs o2 n2).get (i := p + q * r) (by rw [hlen2]; omega)
      have hr1 := (cell_ext (by simpa using gl)).symm.trans hr0
      obtain ⟨blk, o, rfl, hblk, hc⟩ := hLW.at.2 (by omega)
      obtain ⟨b, hb0, hf⟩ := hc i (by omega)
      have hb := (gV.cell hblk).trans hb0
      have qb : blk ≠ k := by omega
      have kb : blk < V.heap.size := by omega
      have Hp := hid hp
      have Hq := hid hq
      clear hb0 hc hr0 m0 hp hq
      go_wp2
      refine wp_region_R (Over V k) [] [(0,0), (0,1), (0,2), (0,3), (0,4), (0,5), (0,6), (0,7), (0,8), (0,9), (0,10), (0,11), (0,12), (0,13), (1,14)] (by kernel_rfl) (by kernel_rfl) (fun _ _ _ _ h _ => h) ⟨_, _, _, ext_drew⟩ ?_
      go_wp2_with (first | ((with_reducible refine wpR_id ?_); first | (refine wpR_take (v := ?_) rfl rfl ?_ ?_; rotate_left; (focus (rintro w' ⟨cs', o', n', rfl⟩; go_simp; try with_reducible rfl)); simp only [Act.put, List.setIfInBounds_toArray, List.set_cons_zero, List.set_cons_succ]) | (refine wpR_pure (v := ?_) rfl rfl ?_ ?_; rotate_left; (focus (intro w'; go_simp; try with_reducible rfl)); simp only [Act.put, List.setIfInBounds_toArray, List.set_cons_zero, List.set_cons_succ]) | (refine wpR_takeG (v := ?_) rfl rfl rfl rfl rfl ?_ ?_; rotate_left; (focus (rintro w' ⟨cs', o', n', rfl⟩; go_simp; try with_reducible rfl)); simp only [Act.put, List.setIfInBounds_toArray, List.set_cons_zero, List.set_cons_succ]) | (refine wpR_skip rfl rfl rfl rfl rfl rfl ?_; simp only [Act.put, List.setIfInBounds_toArray, List.set_cons_zero, List.set_cons_succ]) | (refine wpR_skipU rfl rfl rfl rfl rfl ?_; simp only [Act.put, List.setIfInBounds_toArray, List.set_cons_zero, List.set_cons_succ]) | (refine wpR_do rfl rfl (fun K hK => ?_)) | (refine wpR_doG rfl rfl rfl rfl rfl (fun K hK => ?_)) | (refine wpR_last rfl rfl (fun K hK => ?_)) | (refine wpR_nil ?_)) | ((with_reducible refine wpR_go ?_ ?_); (focus exact ⟨_, _, _, rfl⟩)) | ((with_reducible refine upon_id ?_); refine upon_fop rfl (by assumption) (by assumption) ?_; intro rr nn hr))
      go_roundw
      case rel =>
        refine ⟨i + 1, _, _, _, by omega, by go_num, rfl, ?_⟩
        have h8 := hcs.set (i := p + q * r) hf
        unfold denseTo at h8 ⊢; unfold writes
        rw [← Hp.out, ← Hq.out]; exact h8
      case measure => simp [intOf]; omega
    · have e : i = r * c := by omega
      subst e
      have hfw : FW (ext (upd V k cs) o2 n2) k (denseL r c ls) := by unfold denseL; rw [HL.out, Nat.min_self]; exact hFV.mk' hcs _ _
      have gu : Grew w (upd V k cs) := (g0.trans gV).upd (by omega) cs
      go_wp2
      refine bodyPost_ret (v := .agg #[.slice (some ⟨k, 0, none⟩) (r * c) (r * c), .int .i64 0, .int .i64 r, .int .i64 c, .int .i64 r]) (by simp [results, Try.results69, go_sem, *]) rfl ?_
      exact ⟨_, rfl, ⟨k, r * c, by simp [denseL, denseTo], by omega, by (repeat (first | (with_reducible assumption) | ((with_reducible refine FW.ext_set ?_ ?_ ?_ _); rotate_left; (focus (simp only [size_setCell', World.size_alloc, size_ext, size_upd]; omega)); (focus (dsimp only; omega))) | ((with_reducible refine FW.setCell_ne ?_ ?_ _); rotate_left; (focus (dsimp only; omega))) | (with_reducible refine FW.ext ?_ _ _) | (with_reducible refine FW.alloc ?_ _))), by simp [denseL, denseTo]; omega⟩, by (show Grew _ _; repeat (first | (with_reducible exact Grew.refl _) | (with_reducible assumption) | (with_reducible exact Grew.same_o) | (with_reducible exact Grew.app_o) | (with_reducible refine Grew.ext ?_ _ _) | (with_reducible refine Grew.alloc ?_ _) | ((with_reducible refine Grew.setCell ?_ ?_ _); rotate_left; (focus (dsimp only; first | omega | (simp only [size_ext, World.size_alloc, Array.size_append]; omega)))) | (with_reducible refine Grew.drewN ?_ _) | (with_reducible refine Grew.drew ?_)))⟩
end Go.Proofs.Ytcmggfpcbijcjaa
end
section
/-
  Contract: view.Dense with numbers of a list with any room.
-/
set_option linter.unusedSimpArgs false
set_option linter.unusedVariables false
open Go Go.RowKit Sedge
namespace Go.Proofs.Ytcmggfpcbijcjaa
set_option maxRecDepth 100000 in
set_option maxHeartbeats 1000000 in
/-- view.Dense, of sizes within 64. -/
theorem dense_cap (r c cL : Nat) (aL : Option Addr) (ls : List Nat) (w : World) (hL : FS w (.slice aL ls.length cL) ls) (hr : r ≤ 64) (hc : c ≤ 64) (hr1 : 1 ≤ r) (hc1 : 1 ≤ c) (hlen : ls.length = r * c) (hcap : ls.length ≤ cL) :
   Calls Try.prog 69 #[.int .i64 r, .int .i64 c, .slice aL ls.length cL] w (fun e w' => ∃ v, e = .returned (.agg #[v, .int .i64 0, .int .i64 r, .int .i64 c, .int .i64 r]) ∧ WS w' w.heap.size v (denseL r c ls) ∧ ∃ o n, w' = ext w o n) := by
  have hm : r * c ≤ 64 * 64 := Nat.mul_le_mul hr hc
  have h2 : IntKind.i64.wrap ((r : Int) * c) = (r : Int) * c := IntWalk.i64_in _ (by rw [← Int.natCast_mul]; omega)
  have hlL := hL.len
  have d1 : decide ((r : Int) < 0) = false := by simp
  have d2 : decide ((c : Int) < 0) = false := by simp
  have d3 : decide ((64 : Int) < (r : Int)) = false := by simp; omega
  have d4 : decide ((64 : Int) < (c : Int)) = false := by simp; omega
  have d5 : (ls.length : Int) = (r : Int) * c := by rw [hlen, Int.natCast_mul]
  have d6 : decide ((1 : Int) ≤ (r : Int)) = true := by simp; omega
  have d7 : (r : Int) * c ≤ cL := by rw [← Int.natCast_mul]; omega
  have d8 : r * c ≤ cL := by omega
  go_enter Try.func69, Try.ntmps69
  refine seq_stop ?_
  go_wp2
  refine stop_go (fun W hW => ?_)
  have s1 : w.heap.size < W.heap.size := by rw [hW]; simp only [World.size_alloc]; omega
  have b1 : ∀ i, W.cell? ⟨w.heap.size, i, none⟩ = (#[.slice none 0 0, .int .i64 0, .int .i64 0, .int .i64 0, .int .i64 0] : Array Value)[i]? := by intro i; rw [hW]; go_simp
  have f1 : ∀ i, W.frozen? ⟨w.heap.size, i, none⟩ = false := by intro i; rw [hW]; go_simp
  have g0 : Grew w W := by rw [hW]; exact (Grew.refl _).alloc _
  clear hW
  have hLW : FS W (.slice aL ls.length cL) ls := hL.grew g0
  go_wp2_with (at_make; refine make_f (L := (r : Int) * (c : Int)) finfo (Grew.refl W) _ _ rfl rfl (r * c) (Int.natCast_mul r c).symm rfl rfl (by omega) ?_; intro oo nn k hk ho; have hF := ho.made)
  refine name_any (fun V hV => ?_)
  have gV : Grew W V := by rw [← hV]; (show Grew _ _; repeat (first | (with_reducible exact Grew.refl _) | (with_reducible assumption) | (with_reducible exact Grew.same_o) | (with_reducible exact Grew.app_o) | (with_reducible refine Grew.ext ?_ _ _) | (with_reducible refine Grew.alloc ?_ _) | ((with_reducible refine Grew.setCell ?_ ?_ _); rotate_left; (focus (dsimp only; first | omega | (simp only [size_ext, World.size_alloc, Array.size_append]; omega)))) | (with_reducible refine Grew.drewN ?_ _) | (with_reducible refine Grew.drew ?_)))
  have sV := gV.below.size
  have k1 : w.heap.size < V.heap.size := by omega
  have k3 : W.heap.size + oo.size < V.heap.size := by rw [← hV]; simp only [World.size_alloc, size_ext]; omega
  have c1 : ∀ i, V.cell? ⟨w.heap.size, i, none⟩ = (#[.slice none 0 0, .int .i64 0, .int .i64 0, .int .i64 0, .int .i64 0] : Array Value)[i]? := fun i => (gV.cell s1).trans (b1 i)
  have z1 : ∀ i, V.frozen? ⟨w.heap.size, i, none⟩ = false := fun i => (gV.frozen s1).trans (f1 i)
  have c3 : ∀ i, V.cell? ⟨W.heap.size + oo.size, i, none⟩ = (#[.slice (some ⟨k, 0, none⟩) (r * c) (r * c), .int .i64 0, .int .i64 r, .int .i64 c, .int .i64 r] : Array Value)[i]? := by subst hV; intro i; go_simp
  have hFV : FW V k (List.replicate (r * c) 0) := by rw [← hV]; (repeat (first | (with_reducible assumption) | ((with_reducible refine FW.ext_set ?_ ?_ ?_ _); rotate_left; (focus (simp only [size_setCell', World.size_alloc, size_ext, size_upd]; omega)); (focus (dsimp only; omega))) | ((with_reducible refine FW.setCell_ne ?_ ?_ _); rotate_left; (focus (dsimp only; omega))) | (with_reducible refine FW.ext ?_ _ _) | (with_reducible refine FW.alloc ?_ _)))
  have hLV : FS V (.slice aL ls.length cL) ls := hLW.grew gV
  have gl := hFV.lt
  have q1 : w.heap.size ≠ k := by omega
  have q3 : W.heap.size + oo.size ≠ k := by have := hF.lt; simp only [size_ext] at this; omega
  have HL := hid hlen
  clear hV b1 f1 hL ho
  go_loopw [43] (fun s wr => ∃ (i : Nat) (cs : Array Value) (o : Array Obj) (n : Nat), i ≤ r * c ∧ s = .int .i64 i ∧ wr = ext (upd V k cs) o n ∧ CF cs (denseTo r c ls i)) (fun s _ => r * c - (intOf s).toNat)
  case atStart =>
    obtain ⟨cs, h1, h2⟩ := hFV.self
    exact ⟨0, cs, #[], _, Nat.zero_le _, rfl, by rw [h1]; exact ext_zero.symm, h2⟩
  case round =>
    obtain ⟨i, cs, o2, n2, hi, rfl, hwr, hcs⟩ := hrel
    subst hwr
    by_cases hlt : i < r * c
    · have e1 : i / c < r := by rw [Nat.div_lt_iff_lt_mul (by omega)]; exact hlt
      have e2 : i % c < c := Nat.mod_lt _ (by omega)
      have e3 : i % c * r + r ≤ c * r := by have := Nat.mul_le_mul_right r e2; rw [Nat.succ_mul] at this; exact this
      have e4 : c * r = r * c := Nat.mul_comm c r
      obtain ⟨p, hp⟩ : ∃ p : Nat, p = i / c := ⟨_, rfl⟩
      obtain ⟨q, hq⟩ : ∃ q : Nat, q = i % c := ⟨_, rfl⟩
      rw [← hp] at e1
      rw [← hq] at e2 e3
      have hq1 : (i : Int).tdiv c = (p : Int) := by rw [hp]; rfl
      have hq2 : (i : Int).tmod c = (q : Int) := by rw [hq]; rfl
      have hq3 : (i : Int) / c = (p : Int) := by rw [hp]; rfl
      have hq4 : (i : Int) % c = (q : Int) := by rw [hq]; rfl
      have m0 : (q : Int) * r = ((q * r : Nat) : Int) := (Int.natCast_mul q r).symm
      have w1 : IntKind.i64.wrap ((q : Int) * r) = (q : Int) * r := IntWalk.i64_in _ (by omega)
      have w2 : IntKind.i64.wrap ((p : Int) + (q : Int) * r) = (p : Int) + (q : Int) * r := IntWalk.i64_in _ (by omega)
      have n0 : ((p : Int) + (q : Int) * r).toNat = p + q * r := by omega
      have n1 : 0 ≤ (p : Int) + (q : Int) * r := by omega
      have n3 : (p : Int) + (q : Int) * r < ((r * c : Nat) : Int) := by omega
      have n2' : (c : Int) ≠ 0 := by omega
      have n6 : (p : Int) + (q : Int) * r < (r : Int) * c := by rw [← Int.natCast_mul r c]; exact n3
      have n8 : p + q * r < r * c := by omega
      have n5 : ¬ c = 0 := by omega
      have w0 : IntKind.i64.wrap (p : Int) = p := IntWalk.i64_in _ (by omega)
      have w3 : IntKind.i64.wrap (q : Int) = q := IntWalk.i64_in _ (by omega)
      have n4 : ((c : Int) == 0) = false := by simp; omega
      have fz : ∀ i, V.frozen? ⟨k, i, none⟩ = false := hFV.notFrozen
      have hlen2 : (denseTo r c ls i).length = r * c := by simp [denseTo]
      obtain ⟨r0, hr0, _⟩ := (hFV.mk' hcs o2 n2).get (i := p + q * r) (by rw [hlen2]; omega)
      have hr1 := (cell_ext (by simpa using gl)).symm.trans hr0
      obtain ⟨blk, o, rfl, hblk, hc⟩ := hLW.at.2 (by omega)
      obtain ⟨b, hb0, hf⟩ := hc i (by omega)
      have hb := (gV.cell hblk).trans hb0
      have qb : blk ≠ k := by omega
      have kb : blk < V.heap.size := by omega
      have Hp := hid hp
      have Hq := hid hq
      clear hb0 hc hr0 m0 hp hq
      go_wp2
      refine wp_region_R (Over V k) [] [(0,0), (0,1), (0,2), (0,3), (0,4), (0,5), (0,6), (0,7), (0,8), (0,9), (0,10), (0,11), (0,12), (0,13), (1,14)] (by kernel_rfl) (by kernel_rfl) (fun _ _ _ _ h _ => h) ⟨_, _, _, ext_drew⟩ ?_
      go_wp2_with (first | ((with_reducible refine wpR_id ?_); first | (refine wpR_take (v := ?_) rfl rfl ?_ ?_; rotate_left; (focus (rintro w' ⟨cs', o', n', rfl⟩; go_simp; try with_reducible rfl)); simp only [Act.put, List.setIfInBounds_toArray, List.set_cons_zero, List.set_cons_succ]) | (refine wpR_pure (v := ?_) rfl rfl ?_ ?_; rotate_left; (focus (intro w'; go_simp; try with_reducible rfl)); simp only [Act.put, List.setIfInBounds_toArray, List.set_cons_zero, List.set_cons_succ]) | (refine wpR_takeG (v := ?_) rfl rfl rfl rfl rfl ?_ ?_; rotate_left; (focus (rintro w' ⟨cs', o', n', rfl⟩; go_simp; try with_reducible rfl)); simp only [Act.put, List.setIfInBounds_toArray, List.set_cons_zero, List.set_cons_succ]) | (refine wpR_skip rfl rfl rfl rfl rfl rfl ?_; simp only [Act.put, List.setIfInBounds_toArray, List.set_cons_zero, List.set_cons_succ]) | (refine wpR_skipU rfl rfl rfl rfl rfl ?_; simp only [Act.put, List.setIfInBounds_toArray, List.set_cons_zero, List.set_cons_succ]) | (refine wpR_do rfl rfl (fun K hK => ?_)) | (refine wpR_doG rfl rfl rfl rfl rfl (fun K hK => ?_)) | (refine wpR_last rfl rfl (fun K hK => ?_)) | (refine wpR_nil ?_)) | ((with_reducible refine wpR_go ?_ ?_); (focus exact ⟨_, _, _, rfl⟩)) | ((with_reducible refine upon_id ?_); refine upon_fop rfl (by assumption) (by assumption) ?_; intro rr nn hr))
      go_roundw
      case rel =>
        refine ⟨i + 1, _, _, _, by omega, by go_num, rfl, ?_⟩
        have h8 := hcs.set (i := p + q * r) hf
        unfold denseTo at h8 ⊢; unfold writes
        rw [← Hp.out, ← Hq.out]; exact h8
      case measure => simp [intOf]; omega
    · have e : i = r * c := by omega
      subst e
      have hfw : FW (ext (upd V k cs) o2 n2) k (denseL r c ls) := by unfold denseL; rw [HL.out, Nat.min_self]; exact hFV.mk' hcs _ _
      have gu : Grew w (upd V k cs) := (g0.trans gV).upd (by omega) cs
      go_wp2
      refine bodyPost_ret (v := .agg #[.slice (some ⟨k, 0, none⟩) (r * c) (r * c), .int .i64 0, .int .i64 r, .int .i64 c, .int .i64 r]) (by simp [results, Try.results69, go_sem, *]) rfl ?_
      exact ⟨_, rfl, ⟨k, r * c, by simp [denseL, denseTo], by omega, by (repeat (first | (with_reducible assumption) | ((with_reducible refine FW.ext_set ?_ ?_ ?_ _); rotate_left; (focus (simp only [size_setCell', World.size_alloc, size_ext, size_upd]; omega)); (focus (dsimp only; omega))) | ((with_reducible refine FW.setCell_ne ?_ ?_ _); rotate_left; (focus (dsimp only; omega))) | (with_reducible refine FW.ext ?_ _ _) | (with_reducible refine FW.alloc ?_ _))), by simp [denseL, denseTo]; omega⟩, by (show Grew _ _; repeat (first | (with_reducible exact Grew.refl _) | (with_reducible assumption) | (with_reducible exact Grew.same_o) | (with_reducible exact Grew.app_o) | (with_reducible refine Grew.ext ?_ _ _) | (with_reducible refine Grew.alloc ?_ _) | ((with_reducible refine Grew.setCell ?_ ?_ _); rotate_left; (focus (dsimp only; first | omega | (simp only [size_ext, World.size_alloc, Array.size_append]; omega)))) | (with_reducible refine Grew.drewN ?_ _) | (with_reducible refine Grew.drew ?_)))⟩
end Go.Proofs.Ytcmggfpcbijcjaa
end
section
/-
  New with its room; the numbers of what Dense makes.
-/
set_option linter.unusedSimpArgs false
set_option linter.unusedVariables false
open Go Go.RowKit Sedge
namespace Go.Proofs.Ytcmggfpcbijcjaa
set_option maxRecDepth 100000 in
/-- straightedgeref03.New. -/
theorem rnewc_any (r c : Nat) (w : World) (hr : r ≤ 1000) (hc : c ≤ 1000) :
   Calls Try.prog 68 #[.int .i64 r, .int .i64 c] w (fun e w' => ∃ k, e = .returned (.agg #[.int .i64 r, .int .i64 c, .slice (some ⟨k, 0, none⟩) (r * c) (r * c)]) ∧ w.heap.size ≤ k ∧ FW w' k (List.replicate (r * c) 0) ∧ ∃ o n, w' = ext w o n) := by
  have hm : r * c ≤ 1000 * 1000 := Nat.mul_le_mul hr hc
  have h2 : IntKind.i64.wrap ((r : Int) * c) = (r : Int) * c := IntWalk.i64_in _ (by rw [← Int.natCast_mul]; omega)
  go_enter Try.func68, Try.ntmps68
  refine seq_stop ?_
  go_wp2
  refine stop_go (fun W hW => ?_)
  have s1 : w.heap.size < W.heap.size := by rw [hW]; simp only [World.size_alloc]; omega
  have b1 : ∀ i, W.cell? ⟨w.heap.size, i, none⟩ = (#[.int .i64 0, .int .i64 0, .slice none 0 0] : Array Value)[i]? := by intro i; rw [hW]; go_simp
  have f1 : ∀ i, W.frozen? ⟨w.heap.size, i, none⟩ = false := by intro i; rw [hW]; go_simp
  have g0 : Grew w W := by rw [hW]; exact (Grew.refl _).alloc _
  clear hW
  go_wp2_with (at_make; refine make_f (L := (r : Int) * (c : Int)) finfo (Grew.refl W) _ _ rfl rfl (r * c) (Int.natCast_mul r c).symm rfl rfl (by omega) ?_; intro oo nn k hk ho; have hF := ho.made)
  refine bodyPost_ret (v := .agg #[.int .i64 r, .int .i64 c, .slice (some ⟨k, 0, none⟩) (r * c) (r * c)]) (by simp [results, Try.results68, go_sem, *]) rfl ?_
  exact ⟨_, rfl, by omega, by (repeat (first | (with_reducible assumption) | ((with_reducible refine FW.ext_set ?_ ?_ ?_ _); rotate_left; (focus (simp only [size_setCell', World.size_alloc, size_ext, size_upd]; omega)); (focus (dsimp only; omega))) | ((with_reducible refine FW.setCell_ne ?_ ?_ _); rotate_left; (focus (dsimp only; omega))) | (with_reducible refine FW.ext ?_ _ _) | (with_reducible refine FW.alloc ?_ _))), by (show Grew _ _; repeat (first | (with_reducible exact Grew.refl _) | (with_reducible assumption) | (with_reducible exact Grew.same_o) | (with_reducible exact Grew.app_o) | (with_reducible refine Grew.ext ?_ _ _) | (with_reducible refine Grew.alloc ?_ _) | ((with_reducible refine Grew.setCell ?_ ?_ _); rotate_left; (focus (dsimp only; first | omega | (simp only [size_ext, World.size_alloc, Array.size_append]; omega)))) | (with_reducible refine Grew.drewN ?_ _) | (with_reducible refine Grew.drew ?_)))⟩
theorem dense_num {r c : Nat} {l : List Nat} (hl : l.length = r * c) {i j : Nat} (hi : i < r) (hj : j < c) : (denseL r c l).getD (i + j * r) 0 = l.getD (i * c + j) 0 := by
  have hc : 0 < c := by omega
  have hk : i * c + j < r * c := by
    have := Nat.mul_le_mul_right c (show i + 1 ≤ r by omega)
    rw [Nat.add_mul] at this; omega
  have e1 : (i * c + j) / c = i := by rw [Nat.add_comm, Nat.add_mul_div_right _ _ hc, Nat.div_eq_of_lt hj, Nat.zero_add]
  have e2 : (i * c + j) % c = j := by rw [Nat.add_comm, Nat.add_mul_mod_self_right, Nat.mod_eq_of_lt hj]
  unfold denseL denseTo
  rw [hl, Nat.min_self]
  have h := writes_at (l := List.replicate (r * c) 0) (p := fun k => k / c + k % c * r) (f := fun k => l.getD k 0) (r * c) (fun s t hs ht e => ?_) (fun t ht => ?_) (i * c + j) hk
  · simp only [e1, e2] at h
    exact h
  · have hs1 : s / c < r := by rw [Nat.div_lt_iff_lt_mul hc]; exact hs
    have ht1 : t / c < r := by rw [Nat.div_lt_iff_lt_mul hc]; exact ht
    have hr : 0 < r := by omega
    have m1 : (s / c + s % c * r) % r = s / c := by rw [Nat.add_mul_mod_self_right, Nat.mod_eq_of_lt hs1]
    have m2 : (t / c + t % c * r) % r = t / c := by rw [Nat.add_mul_mod_self_right, Nat.mod_eq_of_lt ht1]
    have n1 : (s / c + s % c * r) / r = s % c := by rw [Nat.add_mul_div_right _ _ hr, Nat.div_eq_of_lt hs1, Nat.zero_add]
    have n2 : (t / c + t % c * r) / r = t % c := by rw [Nat.add_mul_div_right _ _ hr, Nat.div_eq_of_lt ht1, Nat.zero_add]
    have q1 : s / c = t / c := by rw [← m1, ← m2, e]
    have q2 : s % c = t % c := by rw [← n1, ← n2, e]
    rw [← Nat.div_add_mod s c, ← Nat.div_add_mod t c, q1, q2]
  · have ht1 : t / c < r := by rw [Nat.div_lt_iff_lt_mul hc]; exact ht
    have ht2 : t % c < c := Nat.mod_lt _ hc
    rw [List.length_replicate]
    have := Nat.mul_le_mul_right r (show t % c + 1 ≤ c by omega)
    rw [Nat.add_mul, Nat.mul_comm c r] at this
    omega
end Go.Proofs.Ytcmggfpcbijcjaa
end
section
/-
  LacnBelow: what the law's numbers are (plain), and lacn.Dense as the law wants it.
-/
set_option linter.unusedSimpArgs false
set_option linter.unusedVariables false
open Go Go.RowKit Sedge Ieee
namespace Go.Proofs.Ytcmggfpcbijcjaa
/-- The matrix' whole numbers. -/
def aW (ls : List Int) (k i j : Nat) : Int := (ls.getD (i * k + j) 0).tmod 1001
theorem aW_abs (ls : List Int) (k i j : Nat) : (aW ls k i j).natAbs ≤ 1000 := by
  have h1 : (aW ls k i j).natAbs = (ls.getD (i * k + j) 0).natAbs % 1001 := Int.natAbs_tmod _ 1001
  omega
theorem rem1001 (z : Int) : (z.tmod 1001).natAbs ≤ 1000 := by
  have h1 : (z.tmod 1001).natAbs = z.natAbs % 1001 := Int.natAbs_tmod z 1001
  omega
/-- The table, filled as far as i. -/
def FT (ls : List Int) (k i : Nat) (TT : List Nat) : Prop := TT.length = k * k ∧ ∀ t, t < i → TT.getD t 0 = fint ((ls.getD t 0).tmod 1001)
theorem FT.wi {ls : List Int} {k : Nat} {TT : List Nat} (h : FT ls k (k * k) TT) {i j : Nat} (hi : i < k) (hj : j < k) : WI (TT.getD (i * k + j) 0) (aW ls k i j) := by
  have hk : i * k + j < k * k := by
    have := Nat.mul_le_mul_right k (show i + 1 ≤ k by omega)
    rw [Nat.add_mul] at this; omega
  rw [h.2 _ hk]
  exact fint_int (by have := rem1001 (ls.getD (i * k + j) 0); omega)
theorem lac_est (ls : List Int) (k : Nat) (h1 : 1 ≤ k) (h2 : k ≤ 12) (TT : List Nat) (hT : FT ls k (k * k) TT) (ga ca : Nat) (w : World) (hA : FW w ga (denseL k k TT)) :
    Calls Try.prog 115 #[.agg #[.slice (some ⟨ga, 0, none⟩) (k * k) ca, .int .i64 0, .int .i64 k, .int .i64 k, .int .i64 k]] w (fun e w' => ∃ (r : Nat) (asks : Int) (E : Nat), e = .returned (.tuple #[.float .f64 r, .int .i64 asks, .int .i64 0]) ∧ IsF r E ∧ EstOk (aW ls k) k E ∧ ∃ o n, w' = ext w o n) := by
  have hM : ∀ i j, i < k → j < k → WI (MatM.num ⟨denseL k k TT, 0, k, k, k⟩ i j) (aW ls k i j) ∧ (aW ls k i j).natAbs ≤ 1000 := fun i j hi hj => by
    unfold MatM.num
    rw [matd_place, dense_num hT.1 hi hj]
    exact ⟨hT.wi hi hj, aW_abs ls k i j⟩
  refine (lacn_dense k h1 h2 (denseL k k TT) (by simp [denseL, denseTo]) ga ca w hA (fun m Y kk => 2 ≤ m.st → EstOk (aW ls k) k m.E) (fun h => by simp at h) (fun m Y kk X m' Y' k' hwf hP hX hk1 _ hs => est_next h1 h2 hM hwf hP hX hk1 hs)).mono fun e w' hh => ?_
  obtain ⟨r, asks, m, Y, e1, e2, e3, e4, e5⟩ := hh
  refine ⟨r, asks, m.E, e1, e2, e4 ?_, e5⟩
  unfold WFs at e3
  rcases e3 with ⟨_, h, _⟩ | ⟨_, h, _⟩ | ⟨_, h, _⟩ | ⟨_, h, _⟩ | ⟨_, h, _⟩ | ⟨h, _⟩
  · cases h
  · cases h
  · cases h
  · cases h
  · cases h
  · omega
theorem DV.none {w : World} {lo hi : Int} : DV w (.agg #[.bool false, .slice none 0 0, .int .i64 0]) 0 lo hi :=
  ⟨false, _, 0, [], rfl, NS.nil _, Dg.nil, by show (0 : Rat) = dat false 0 _; rw [dat_zero], fun _ => rfl, fun _ => ⟨rfl, rfl⟩, fun h => absurd rfl h⟩
end Go.Proofs.Ytcmggfpcbijcjaa
end
section
/-
  LacnBelow: the example of layer 20 (114).
-/
set_option linter.unusedSimpArgs false
set_option linter.unusedVariables false
open Go Go.RowKit Sedge
namespace Go.Proofs.Ytcmggfpcbijcjaa
def M20 : List Nat := [4607182418800017408, 13835058055282163712, 4613937818241073152, 4616189618054758400]
def C20 : List Nat := [4607182418800017408, 4613937818241073152, 13835058055282163712, 4616189618054758400]
def Yv (Y : List Nat) : Nat → Nat := VecM.num ⟨Y, 0, 2, 1⟩
def mul20 (Y : List Nat) : List Nat := [mulTo 4607182418800017408 (MatM.num ⟨C20, 0, 2, 2, 2⟩) (VecM.num ⟨Y, 0, 2, 1⟩) 0 0 2, mulTo 4607182418800017408 (MatM.num ⟨C20, 0, 2, 2, 2⟩) (VecM.num ⟨Y, 0, 2, 1⟩) 0 1 2]
def mulT20 (Y : List Nat) : List Nat := [fadd 0 (fmul 4607182418800017408 (dotTo (colV ⟨C20, 0, 2, 2, 2⟩ 0) ⟨Y, 0, 2, 1⟩ 2)), fadd 0 (fmul 4607182418800017408 (dotTo (colV ⟨C20, 0, 2, 2, 2⟩ 1) ⟨Y, 0, 2, 1⟩ 2))]
def S20 : List Nat := [13830554455654793216, 4607182418800017408]
def Y0 : List Nat := (List.range 2).map (firstW 2)
def Y2 : List Nat := (List.range 2).map (unitW 1)
def Y3 : List Nat := (List.range 2).map (lastW 2)
theorem two_eq {X : List Nat} {a b : Nat} (h : X.length = 2) (h0 : X.getD 0 0 = a) (h1 : X.getD 1 0 = b) : X = [a, b] := by
  match X, h with
  | [x, y], _ => simp at h0 h1; rw [h0, h1]
/-- The machine's states, of the example. -/
def P20 (m : LM) (Y : List Nat) (k : Nat) : Prop :=
  (m = ⟨1, 0, [], 0, 0⟩ ∧ Y = Y0 ∧ k = 1) ∨ (m = ⟨2, 4616189618054758400, S20, 0, 0⟩ ∧ Y = S20 ∧ k = 2) ∨ (m = ⟨3, 4616189618054758400, S20, 1, 2⟩ ∧ Y = Y2 ∧ k = 1) ∨
  (m = ⟨5, 4618441417868443648, S20, 1, 2⟩ ∧ Y = Y3 ∧ k = 1) ∨ (m = ⟨6, 4618441417868443648, S20, 1, 2⟩ ∧ Y = [] ∧ k = 0)
theorem p20_a : sumW (mul20 Y0) = 4616189618054758400 ∧ sgL (mul20 Y0) = S20 := by decide +kernel
theorem p20_b : mostW (mulT20 S20) = 1 := by decide +kernel
theorem p20_c : (seqF (sgL (mul20 Y2)) S20 || fle (sumW (mul20 Y2)) 4616189618054758400) = true ∧ betterW (sumW (mul20 Y2)) 4616189618054758400 = 4618441417868443648 := by decide +kernel
theorem p20_d : betterW (fmul 4611686018427387904 (fdiv (sumW (mul20 Y3)) (fint (3 * 2 : Nat)))) 4618441417868443648 = 4618441417868443648 := by decide +kernel
theorem p20_step (m : LM) (Y : List Nat) (k : Nat) (X : List Nat) (m' : LM) (Y' : List Nat) (k' : Nat) (_ : WFs 2 m Y k) (hP : P20 m Y k) (hX : X.length = 2) (h1 : k = 1 → ∀ i, i < 2 → X.getD i 0 = mulTo 4607182418800017408 (MatM.num ⟨C20, 0, (2 : Nat), (2 : Nat), (2 : Nat)⟩) (VecM.num ⟨Y, 0, (2 : Nat), 1⟩) 0 i 2)
    (h2 : k = 2 → ∀ j, j < 2 → X.getD j 0 = fadd 0 (fmul 4607182418800017408 (dotTo (colV ⟨C20, 0, (2 : Nat), (2 : Nat), (2 : Nat)⟩ j) ⟨Y, 0, (2 : Nat), 1⟩ 2))) (hs : LStep 2 X m m' Y' k') : P20 m' Y' k' := by
  rcases hP with ⟨rfl, rfl, rfl⟩ | ⟨rfl, rfl, rfl⟩ | ⟨rfl, rfl, rfl⟩ | ⟨rfl, rfl, rfl⟩ | ⟨rfl, rfl, rfl⟩
  · obtain rfl : X = mul20 Y0 := two_eq hX (h1 rfl 0 (by decide)) (h1 rfl 1 (by decide))
    cases hs with
    | first1 E S j c e => exact absurd e (by decide)
    | first2 E S j c e => exact .inr (.inl ⟨by rw [p20_a.1, p20_a.2], p20_a.2, rfl⟩)
  · obtain rfl : X = mulT20 S20 := two_eq hX (h2 rfl 0 (by decide)) (h2 rfl 1 (by decide))
    cases hs with
    | turned E S j c => exact .inr (.inr (.inl ⟨by rw [p20_b], by rw [p20_b]; rfl, rfl⟩))
  · obtain rfl : X = mul20 Y2 := two_eq hX (h1 rfl 0 (by decide)) (h1 rfl 1 (by decide))
    cases hs with
    | columnL E S j c e => exact .inr (.inr (.inr (.inl ⟨by rw [p20_c.2], rfl, rfl⟩)))
    | columnS E S j c e => rw [p20_c.1] at e; cases e
  · obtain rfl : X = mul20 Y3 := two_eq hX (h1 rfl 0 (by decide)) (h1 rfl 1 (by decide))
    cases hs with
    | last E S j c => exact .inr (.inr (.inr (.inr ⟨by rw [p20_d], rfl, rfl⟩)))
  · cases hs
theorem dense20 (ga ca : Nat) (w : World) (hA : FW w ga C20) : Calls Try.prog 115 #[.agg #[.slice (some ⟨ga, 0, none⟩) C20.length ca, .int .i64 0, .int .i64 2, .int .i64 2, .int .i64 2]] w (fun e w' => ∃ r asks, e = .returned (.tuple #[.float .f64 r, .int .i64 asks, .int .i64 0]) ∧ IsF r 4618441417868443648 ∧ ∃ o n, w' = ext w o n) :=
  (lacn_dense 2 (by decide) (by decide) C20 (by decide) ga ca w hA P20 (.inl ⟨rfl, rfl, rfl⟩) p20_step).mono fun e w' ⟨r, asks, m, Y, h1, h2, h3, h4, h5⟩ => ⟨r, asks, h1, by
    rcases h4 with ⟨_, _, hk⟩ | ⟨_, _, hk⟩ | ⟨_, _, hk⟩ | ⟨_, _, hk⟩ | ⟨rfl, _, _⟩
    · cases hk
    · cases hk
    · cases hk
    · cases hk
    · exact h2, h5⟩
set_option maxRecDepth 100000 in
set_option maxHeartbeats 2000000 in
theorem awake20 (w : World) : Calls Try.prog 114 #[] w (fun e w' => e = .returned (.bool true) ∧ ∃ o n, w' = ext w o n) := by
  have h1 : ∀ x ∈ M20, IsF x x := by decide +kernel
  have H1 := hid h1
  have hd : ∀ aL w', FS w' (.slice aL 4 4) M20 → Calls Try.prog 69 #[.int .i64 2, .int .i64 2, .slice aL 4 4] w' (fun e w2 => ∃ v, e = .returned (.agg #[v, .int .i64 0, .int .i64 2, .int .i64 2, .int .i64 2]) ∧ WS w2 w'.heap.size v C20 ∧ ∃ o n, w2 = ext w' o n) := fun aL w' h => by
    have h := dense_any 2 2 aL M20 w' h (by decide) (by decide) (by decide) (by decide) rfl
    have e : denseL 2 2 M20 = C20 := by decide +kernel
    rw [e] at h
    exact h
  have e6 : ∀ r, IsF r 4618441417868443648 → r = 4618441417868443648 := fun r h => isF_not h (by decide +kernel)
  have eq6 : (FloatKind.f64.format.order 4618441417868443648 4618441417868443648 == some Ordering.eq) = true := by decide +kernel
  clear h1
  go_enter Try.func114, Try.ntmps114
  go_wp2_with (first | (go_at_call 188; ((with_reducible refine (lnew_no _).mono ?_); rintro e w1 ⟨rfl, o1, n1, rfl⟩)) | (go_at_call 69; ((with_reducible refine (hd _ _ ?_).mono ?_); (focus (repeat (first | exact FS.lit M20 (by decide) H1.out 4 _ (by simp only [size_ext, World.size_alloc]) | exact FS.lit M20 (by decide) H1.out 4 _ rfl | refine FS.alloc ?_ _ | refine FS.ext ?_ _ _))); rintro e w2 ⟨v, rfl, ⟨g, cap, rfl, hg, hF, hL⟩, hw2⟩)) | (go_at_call 115; ((with_reducible refine (dense20 g cap _ hF).mono ?_); rintro e w3 ⟨r, asks, rfl, hr, hw3⟩; (have er := e6 r hr); (subst er))))
  go_ret
  exact ⟨rfl, Grew.trans (Grew.trans (by (show Grew _ _; (try simp only [← Array.append_assoc]); repeat (first | (with_reducible exact Grew.same_o) | (with_reducible exact Grew.refl _) | (with_reducible assumption) | (with_reducible refine Grew.alloc ?_ _) | (with_reducible refine Grew.app_r ?_) | ((with_reducible refine Grew.setCell ?_ ?_ _); rotate_left; (focus (dsimp only; first | omega | (simp only [size_ext, World.size_alloc, Array.size_append]; omega)))) | (with_reducible refine Grew.ext ?_ _ _) | (with_reducible refine Grew.drewN ?_ _) | (with_reducible refine Grew.drew ?_)))) hw2) hw3⟩
end Go.Proofs.Ytcmggfpcbijcjaa
end
section
/-
  Contracts: the reference's digits (layer 2): Made.
-/
set_option linter.unusedSimpArgs false
set_option linter.unusedVariables false
open Go Go.RowKit Sedge
namespace Go.Proofs.Ytcmggfpcbijcjaa
set_option maxRecDepth 100000 in
set_option maxHeartbeats 2000000 in
/-- Made. -/
theorem made_any (neg : Bool) (L : Value) (l : List Nat) (E : Int) (w : World) (hL : NS w L l) (hg : Dg l) (hl : l.length ≤ 1000000) (hE : -1000000 ≤ E ∧ E ≤ 1000000) :
   Calls Try.prog 120 #[.bool neg, L, .int .i64 E] w (fun e w' => ∃ v, e = .returned v ∧ DV w' v (dat neg (dv l) (16 * E)) E (E + l.length) ∧ (∀ k, dBlock v = some k → L.ownBlock = some k) ∧ ∃ o n, w' = ext w o n) := by
  obtain ⟨q0, hq0⟩ : ∃ q0, q0 = dat neg (dv l) (16 * E) := ⟨_, rfl⟩
  rw [← hq0]
  go_enter Try.func120, Try.ntmps120
  go_upto_block 0 with fail
  refine name_any (fun W hW => ?_)
  have g0 : Grew w W := by rw [← hW]; (show Grew _ _; repeat (first | (with_reducible exact Grew.refl _) | (with_reducible assumption) | (with_reducible exact Grew.same_o) | (with_reducible exact Grew.app_o) | (with_reducible refine Grew.ext ?_ _ _) | (with_reducible refine Grew.alloc ?_ _) | ((with_reducible refine Grew.setCell ?_ ?_ _); rotate_left; (focus (dsimp only; first | omega | (simp only [size_ext, World.size_alloc, Array.size_append]; omega)))) | (with_reducible refine Grew.drewN ?_ _) | (with_reducible refine Grew.drew ?_)))
  have s1 : w.heap.size < W.heap.size := by rw [← hW]; simp only [World.size_alloc]; omega
  have f1 : ∀ i, W.frozen? ⟨w.heap.size, i, none⟩ = false := by subst hW; intro i; go_simp
  have b1 : ∀ i, W.cell? ⟨w.heap.size, i, none⟩ = (#[.bool false, .slice none 0 0, .int .i64 0] : Array Value)[i]? := by subst hW; intro i; go_simp
  have hLW := hL.grew g0
  clear hW
  go_cut [1, 2] (fun c d wx => ∃ (l' : List Nat) (E' : Int), d = .int .i64 E' ∧ NS w c l' ∧ Dg l' ∧ q0 = dat neg (dv l') (16 * E') ∧ E ≤ E' ∧ E' + l'.length = E + l.length ∧ (∀ k, c.ownBlock = some k → L.ownBlock = some k) ∧ wx = W)
  case first =>
    go_wp2_with fail
    go_loopw [1, 2] (fun c d wx => ∃ (l' : List Nat) (E' : Int), d = .int .i64 E' ∧ NS w c l' ∧ Dg l' ∧ q0 = dat neg (dv l') (16 * E') ∧ E ≤ E' ∧ E' + l'.length = E + l.length ∧ (∀ k, c.ownBlock = some k → L.ownBlock = some k) ∧ wx = W) (fun c _ _ => lenOf c)
    case atStart => exact ⟨l, E, rfl, hL, hg, hq0, Int.le_refl _, rfl, fun _ h => h, rfl⟩
    case round =>
      obtain ⟨l', E', rfl, hN, hD, hQ, h1, h2, hob, hwr⟩ := hrel
      have HOB := hid hob
      clear hob
      subst hwr
      have HQ := hid hQ
      clear hQ
      cases l' with
      | nil =>
        obtain ⟨a, cap, rfl⟩ := hN.shape
        go_wp2
        go_meet
        exact ⟨[], E', rfl, hN, hD, HQ.out, h1, h2, HOB.out, by trivial⟩
      | cons x l' =>
        obtain ⟨blk, o, cap, rfl, hblk, hcap, hc⟩ := hN.open (by simp)
        have hc0 := (g0.cell hblk).trans (hc 0 (by simp))
        rw [Nat.add_zero] at hc0
        change _ = some (Value.int .i64 (x : Int)) at hc0
        clear hc
        by_cases h0 : x = 0
        · subst h0
          have hT := hN.tail'
          have hb : E' ≤ 2000000 := by simp at h2; omega
          have HL := hid h2
          clear h2
          go_wp2
          go_roundw
          case rel => exact ⟨l', E' + 1, by go_num, hT, hD.tail, by rw [HQ.out, dat_shift], by omega, by have := HL.out; simp at this; omega, fun k hk => HOB.out k (by rw [← hk]; split <;> rfl), by trivial⟩
          case measure => simp [lenOf]
        · have b0 : ((x : Int) == 0) = false := by rw [beq_eq_false_iff_ne]; omega
          go_wp2
          go_meet
          exact ⟨x :: l', E', rfl, hN, hD, HQ.out, h1, h2, HOB.out, by trivial⟩
  case rest =>
    obtain ⟨l1, E1, rfl, hN1, hD1, hQ1, h1, h2, hob1, rfl⟩ := hcut
    have HQ1 := hid hQ1
    have HOB1 := hid hob1
    clear hob1
    clear hQ1
    have hb1 : E1 ≤ 2000000 := by omega
    have W1 := hid h2
    clear h2
    go_wp2_with fail
    go_loopw [1] (fun c wx => ∃ (l' : List Nat), NS w c l' ∧ Dg l' ∧ q0 = dat neg (dv l') (16 * E1) ∧ l'.length ≤ l1.length ∧ (∀ k, c.ownBlock = some k → L.ownBlock = some k) ∧ wx = wc) (fun c _ => lenOf c)
    case atStart => exact ⟨l1, hN1, hD1, HQ1.out, Nat.le_refl _, HOB1.out, rfl⟩
    case round =>
      obtain ⟨l', hN, hD, hQ, h2, hob, hwr⟩ := hrel
      have HOB := hid hob
      clear hob
      subst hwr
      have HQ := hid hQ
      have HL2 := hid h2
      have hl2 : l'.length ≤ 1000000 := by have := W1.out; omega
      clear hQ h2
      rcases Nat.eq_zero_or_pos l'.length with h0 | h0
      · have : l' = [] := List.length_eq_zero_iff.1 h0
        subst this
        obtain ⟨a, cap, rfl⟩ := hN.shape
        go_wp2
        refine bodyPost_ret (by simp [results, Try.results120, go_sem, *]; rfl) rfl ?_
        refine ⟨_, rfl, ⟨false, _, 0, [], rfl, NS.nil _, Dg.nil, by rw [HQ.out]; show dat neg 0 _ = dat false 0 _; rw [dat_zero, dat_zero], fun _ => rfl, fun _ => ⟨rfl, rfl⟩, fun h => absurd rfl h⟩, (fun k hk => by cases hk), by (show Grew _ _; repeat (first | (with_reducible exact Grew.refl _) | (with_reducible assumption) | (with_reducible exact Grew.same_o) | (with_reducible exact Grew.app_o) | (with_reducible refine Grew.ext ?_ _ _) | (with_reducible refine Grew.alloc ?_ _) | ((with_reducible refine Grew.setCell ?_ ?_ _); rotate_left; (focus (dsimp only; first | omega | (simp only [size_ext, World.size_alloc, Array.size_append]; omega)))) | (with_reducible refine Grew.drewN ?_ _) | (with_reducible refine Grew.drew ?_)))⟩
      · obtain ⟨m, hm⟩ : ∃ m, l'.length = m + 1 := ⟨l'.length - 1, by omega⟩
        obtain ⟨blk, o, cap, rfl, hblk, hcap, hc⟩ := hN.open h0
        have hc0 := (g0.cell hblk).trans (hc m (by omega))
        clear hc
        have hdl := hN.dropLast
        have hne : l' ≠ [] := by intro h; subst h; simp at hm
        have hgl : l'.getD m 0 = l'.getLast hne := by
          rw [List.getLast_eq_getElem, List.getD_eq_getElem?_getD, List.getElem?_eq_getElem (by omega)]
          simp [hm]
        obtain ⟨x, hx⟩ : ∃ x, x = l'.getD m 0 := ⟨_, rfl⟩
        rw [← hx] at hc0 hgl
        have HX := hid hgl
        rw [hm] at hdl hcap hN ⊢
        have hdrop := hid (show l'.dropLast.length = m by simp [hm])
        have hM := hid hm
        have hmb : m ≤ 1000000 := by omega
        have am : IntKind.i64.wrap (m : Int) = m := IntWalk.i64_in _ (by omega)
        clear hgl hx hm
        by_cases hx0 : x = 0
        · subst hx0
          have hdv := hid (dv_dropLast hne HX.out.symm)
          go_wp2
          go_roundw
          case rel => exact ⟨l'.dropLast, by rw [← hdrop.out] at hdl ⊢; exact hdl, hD.dropLast, by rw [HQ.out, hdv.out], by have := HL2.out; have := hM.out; rw [hdrop.out]; omega, HOB.out, by trivial⟩
          case measure => simp [lenOf]
        · have b0 : ((x : Int) == 0) = false := by rw [beq_eq_false_iff_ne]; omega
          have hdv : dv l' = 0 → l' = [] := fun h => absurd h (dv_pos hne (by rw [← HX.out]; exact hx0))
          have Hdv := hid hdv
          clear hdv
          go_wp2
          refine bodyPost_ret (by simp [results, Try.results120, go_sem, *]; rfl) rfl ?_
          refine ⟨_, rfl, ⟨neg, _, E1, l', rfl, ?_, hD, HQ.out, Hdv.out, fun h => absurd h hne, fun _ => ?_⟩, HOB.out, by (show Grew _ _; repeat (first | (with_reducible exact Grew.refl _) | (with_reducible assumption) | (with_reducible exact Grew.same_o) | (with_reducible exact Grew.app_o) | (with_reducible refine Grew.ext ?_ _ _) | (with_reducible refine Grew.alloc ?_ _) | ((with_reducible refine Grew.setCell ?_ ?_ _); rotate_left; (focus (dsimp only; first | omega | (simp only [size_ext, World.size_alloc, Array.size_append]; omega)))) | (with_reducible refine Grew.drewN ?_ _) | (with_reducible refine Grew.drew ?_)))⟩
          · rw [← hM.out] at hN ⊢
            exact hN.grew (by (show Grew _ _; repeat (first | (with_reducible exact Grew.refl _) | (with_reducible assumption) | (with_reducible exact Grew.same_o) | (with_reducible exact Grew.app_o) | (with_reducible refine Grew.ext ?_ _ _) | (with_reducible refine Grew.alloc ?_ _) | ((with_reducible refine Grew.setCell ?_ ?_ _); rotate_left; (focus (dsimp only; first | omega | (simp only [size_ext, World.size_alloc, Array.size_append]; omega)))) | (with_reducible refine Grew.drewN ?_ _) | (with_reducible refine Grew.drew ?_))))
          · have := HL2.out
            have := W1.out
            omega
end Go.Proofs.Ytcmggfpcbijcjaa
end
section
/-
  Contracts: the reference's digits (layer 2): Whole, Int.
-/
set_option linter.unusedSimpArgs false
set_option linter.unusedVariables false
open Go Go.RowKit Sedge
namespace Go.Proofs.Ytcmggfpcbijcjaa
theorem p64 {c : Nat} (h : c < 4) {m : Nat} (hm : m < 65536 ^ (4 - c)) : m / 65536 < 65536 ^ (4 - (c + 1)) := by
  have e : 4 - c = 4 - (c + 1) + 1 := by omega
  rw [e, Nat.pow_succ] at hm
  exact (Nat.div_lt_iff_lt_mul (by decide)).2 hm
set_option maxRecDepth 100000 in
set_option maxHeartbeats 2000000 in
/-- Whole. -/
theorem whole_any (neg : Bool) (m : Nat) (w : World) (hm : m < 2 ^ 64) :
   Calls Try.prog 119 #[.bool neg, .int .u64 m] w (fun e w' => ∃ v, e = .returned v ∧ DV w' v (dat neg m 0) 0 4 ∧ (∀ k, dBlock v = some k → w.heap.size ≤ k) ∧ ∃ o n, w' = ext w o n) := by
  have hm4 : m < 65536 ^ (4 - 0) := hm
  clear hm
  obtain ⟨q0, hq0⟩ : ∃ q0, Hid (q0 = dat neg m 0) := ⟨_, hid rfl⟩
  rw [← hq0.out]
  have hmade : ∀ L l w', NS w' L l → Dg l → l.length ≤ 4 → dv l = m → Calls Try.prog 120 #[.bool neg, L, .int .i64 0] w' (fun e w2 => ∃ v, e = .returned v ∧ DV w2 v q0 0 4 ∧ (∀ k, dBlock v = some k → L.ownBlock = some k) ∧ ∃ o n, w2 = ext w' o n) := fun L l w' h1 h2 h3 h4 => by
    refine (made_any neg L l 0 w' h1 h2 (by omega) (by omega)).mono fun e w2 hh => ?_
    obtain ⟨v, a1, a2, a4, a3⟩ := hh
    refine ⟨v, a1, ?_, a4, a3⟩
    rw [h4] at a2
    rw [hq0.out]
    exact a2.mono (by omega) (by omega)
  go_enter Try.func119, Try.ntmps119
  go_upto_block 0 with fail
  refine name_any (fun W hW => ?_)
  have g0 : Grew w W := by rw [← hW]; (show Grew _ _; repeat (first | (with_reducible exact Grew.refl _) | (with_reducible assumption) | (with_reducible exact Grew.same_o) | (with_reducible exact Grew.app_o) | (with_reducible refine Grew.ext ?_ _ _) | (with_reducible refine Grew.alloc ?_ _) | ((with_reducible refine Grew.setCell ?_ ?_ _); rotate_left; (focus (dsimp only; first | omega | (simp only [size_ext, World.size_alloc, Array.size_append]; omega)))) | (with_reducible refine Grew.drewN ?_ _) | (with_reducible refine Grew.drew ?_)))
  have s1 : w.heap.size < W.heap.size := by rw [← hW]; simp only [World.size_alloc]; omega
  have f1 : ∀ i, W.frozen? ⟨w.heap.size, i, none⟩ = false := by subst hW; intro i; go_simp
  have b1 : ∀ i, W.cell? ⟨w.heap.size, i, none⟩ = (#[.bool false, .slice none 0 0, .int .i64 0] : Array Value)[i]? := by subst hW; intro i; go_simp
  clear hW
  go_wp2_with fail
  go_loopw [1, 5] (fun c d wx => ∃ (l : List Nat) (M : Nat), c = .int .u64 M ∧ OwnN wx W.heap.size d l ∧ Dg l ∧ l.length ≤ 4 ∧ M < 65536 ^ (4 - l.length) ∧ dv l + 65536 ^ l.length * M = m ∧ ∃ o n, wx = ext W o n) (fun c _ _ => (intOf c).toNat)
  case atStart => exact ⟨[], m, rfl, OwnN.nil _ _, Dg.nil, by simp, hm4, by simp [dv], _, _, ext_zero.symm⟩
  case round =>
    obtain ⟨l, M, rfl, hO, hD, h4, hM, hV, o1, n1, rfl⟩ := hrel
    have HM := hid hM
    have HV := hid hV
    clear hM hV
    by_cases h0 : M = 0
    · subst h0
      have hdv : dv l = m := by have := HV.out; rw [Nat.mul_zero, Nat.add_zero] at this; exact this
      have hns := hO.ns
      go_wp2_with (first | (go_at_call 120; ((with_reducible refine (hmade _ l _ hns hD h4 hdv).mono ?_); rintro e w1 ⟨v, rfl, hv, hbk, o2, n2, rfl⟩; obtain ⟨ng, sa, sn, sc, sE, rfl⟩ := hv.shape)))
      have hbk2 : ∀ k, dBlock (.agg #[.bool ng, .slice sa sn sc, .int .i64 sE]) = some k → W.heap.size ≤ k := fun k hk => hO.block k (hbk k hk)
      rw [ext_ext] at hv
      refine bodyPost_ret (by simp [results, Try.results119, go_sem, *]; rfl) rfl ?_
      exact ⟨_, rfl, hv.ext_set3 s1 (fun k hk => by have := hbk2 k hk; omega) _ _ _, fun k hk => by have := hbk2 k hk; omega, by (show Grew _ _; repeat (first | (with_reducible exact Grew.refl _) | (with_reducible assumption) | (with_reducible exact Grew.same_o) | (with_reducible exact Grew.app_o) | (with_reducible refine Grew.ext ?_ _ _) | (with_reducible refine Grew.alloc ?_ _) | ((with_reducible refine Grew.setCell ?_ ?_ _); rotate_left; (focus (dsimp only; first | omega | (simp only [size_ext, World.size_alloc, Array.size_append]; omega)))) | (with_reducible refine Grew.drewN ?_ _) | (with_reducible refine Grew.drew ?_)))⟩
    · have hlt : l.length < 4 := by
        rcases Nat.lt_or_ge l.length 4 with h | h
        · exact h
        · have := HM.out
          rw [show 4 - l.length = 0 by omega] at this
          simp at this; omega
      go_wp2_with (first | (at_builtin; refine append1_n iundN iinfoN rfl (W := W) (d := M % 65536) ⟨_, _, rfl⟩ hO ?_ (by omega) _ _ rfl rfl rfl ?_ rfl ?_; (focus omega); (focus (first | rfl | (simp only [size_ext]))); intro va oa na hoa))
      have hm2 := p64 hlt HM.out
      have e1 : IntKind.u64.wrap ((M : Int) / 65536) = ((M / 65536 : Nat) : Int) := by
        have : M < 65536 ^ 4 := Nat.lt_of_lt_of_le HM.out (Nat.pow_le_pow_right (by decide) (by omega))
        rw [IntWalk.u64_in _ (by omega)]; omega
      have hdm := Nat.div_add_mod M 65536
      have hVV : dv (l ++ [M % 65536]) + 65536 ^ (l.length + 1) * (M / 65536) = m := by
        rw [← HV.out, dv_append, Nat.pow_succ]
        show dv l + 65536 ^ l.length * (M % 65536 + 65536 * 0) + _ = _
        rw [Nat.mul_assoc, Nat.add_assoc, ← Nat.mul_add]
        congr 2; omega
      go_roundw
      case rel => exact ⟨l ++ [M % 65536], M / 65536, by rw [e1], hoa, hD.append (Dg.one (Nat.mod_lt _ (by decide))), by simp; omega, by simpa using hm2, by simpa using hVV, _, _, rfl⟩
      case measure => rw [e1]; simp [intOf]; omega
end Go.Proofs.Ytcmggfpcbijcjaa
end
section
/-
  Contracts: the reference's digits (layer 2): Shift.
-/
set_option linter.unusedSimpArgs false
set_option linter.unusedVariables false
open Go Go.RowKit Sedge
namespace Go.Proofs.Ytcmggfpcbijcjaa
theorem emod16 (k : Int) : ∃ r : Nat, k % 16 = r ∧ r < 16 := ⟨(k % 16).toNat, by omega, by omega⟩
set_option maxRecDepth 100000 in
set_option maxHeartbeats 4000000 in
/-- Shift. -/
theorem dshift_any (V : Value) (q : Rat) (lo hi k : Int) (w : World) (hV : DV w V q lo hi) (hlo : -100000 ≤ lo) (hhi : hi ≤ 100000) (hk : -100000 ≤ k ∧ k ≤ 100000) :
   Calls Try.prog 32 #[V, .int .i64 k] w (fun e w' => ∃ v, e = .returned v ∧ DV w' v (q * p2 k) (lo + k / 16) (hi + k / 16 + 1) ∧ (∀ b, dBlock v = some b → w.heap.size ≤ b) ∧ ∃ o n, w' = ext w o n) := by
  obtain ⟨ng, L, E, l, rfl, hN, hD, hq, h0, h1, h2⟩ := hV
  obtain ⟨r, hr, hr16⟩ := emod16 k
  obtain ⟨Q, hQ⟩ : ∃ Q, Q = k / 16 := ⟨_, rfl⟩
  have hkQ : k = 16 * Q + r := by omega
  have hQb : -10000 ≤ Q ∧ Q ≤ 10000 := by omega
  have hEb : -100000 ≤ E ∧ E ≤ 100000 ∧ l.length ≤ 200000 := by
    by_cases hl : l = []
    · subst hl; have := (h1 rfl).1; simp; omega
    · have := h2 hl; omega
  obtain ⟨q0, hq0⟩ : ∃ q0, Hid (q0 = q * p2 k) := ⟨_, hid rfl⟩
  obtain ⟨P, hP⟩ : ∃ P, P = 2 ^ r := ⟨_, rfl⟩
  rw [← hq0.out, ← hQ]
  have hfl : ∀ w', Calls Try.prog 124 #[.int .i64 k] w' (fun e w2 => e = .returned (.tuple #[.int .i64 Q, .int .i64 r]) ∧ w' = w2) := fun w' => by
    have := floor_any k w' (by omega)
    rw [← hQ, hr] at this
    exact this.mono fun e w2 h => ⟨h.1, h.2.symm⟩
  have hpw : ∀ w', Calls Try.prog 125 #[.int .i64 r] w' (fun e w2 => e = .returned (.int .i64 (P : Int)) ∧ w' = w2) := fun w' => by
    rw [hP]; exact (power_any r w' (by omega)).mono fun e w2 h => ⟨h.1, h.2.symm⟩
  have hmade : ∀ L' l' w', NS w' L' l' → Dg l' → l'.length = l.length + 1 → dv l' = dv l * P → Calls Try.prog 120 #[.bool ng, L', .int .i64 (E + Q)] w' (fun e w2 => ∃ v, e = .returned v ∧ DV w2 v q0 (lo + Q) (hi + Q + 1) ∧ (∀ k, dBlock v = some k → L'.ownBlock = some k) ∧ ∃ o n, w2 = ext w' o n) := fun L' l' w' a1 a2 a3 a4 => by
    refine (made_any ng L' l' (E + Q) w' a1 a2 (by omega) (by omega)).mono fun e w2 hh => ?_
    obtain ⟨v, b1, b2, b3, b4⟩ := hh
    refine ⟨v, b1, ?_, b3, b4⟩
    have e1 : dat ng (dv l') (16 * (E + Q)) = q0 := by
      rw [hq0.out, hq, a4, hP, hkQ]
      unfold dat
      rw [Rat.natCast_mul, ← p2_nat, show 16 * (E + Q) = 16 * E + 16 * Q by omega, p2_add, p2_add]
      grind
    rw [e1] at b2
    obtain ⟨ng', L2, E2, l2, c1, c2, c3, c4, c5, c6, c7⟩ := b2
    refine ⟨ng', L2, E2, l2, c1, c2, c3, c4, c5, c6, fun hl2 => ?_⟩
    have c8 := c7 hl2
    by_cases hl : l = []
    · exfalso
      subst hl
      have hd0 : dv l' = 0 := by rw [a4]; simp [dv]
      rw [hd0, dat_zero] at e1
      rw [← e1] at c4
      have := dat_eq_zero c4.symm
      exact hl2 (c5 this)
    · have := h2 hl; omega
  obtain ⟨sa, sc, rfl⟩ := hN.shape
  have Hq := hid hq
  clear hkQ hq h0 h1 h2 hq0 hQ hr
  go_enter Try.func32, Try.ntmps32
  refine seq_stop ?_
  go_wp2
  refine stop_go (fun W hW => ?_)
  have s1 : w.heap.size < W.heap.size := by rw [hW]; simp only [World.size_alloc]; omega
  have b1 : ∀ i, W.cell? ⟨w.heap.size, i, none⟩ = (#[.bool ng, .slice sa l.length sc, .int .i64 E] : Array Value)[i]? := by intro i; rw [hW]; go_simp
  have f1 : ∀ i, W.frozen? ⟨w.heap.size, i, none⟩ = false := by intro i; rw [hW]; go_simp
  have s2 : w.heap.size + 1 < W.heap.size := by rw [hW]; simp only [World.size_alloc]; omega
  have b2 : ∀ i, W.cell? ⟨w.heap.size + 1, i, none⟩ = (#[.bool false, .slice none 0 0, .int .i64 0] : Array Value)[i]? := by intro i; rw [hW]; go_simp
  have f2 : ∀ i, W.frozen? ⟨w.heap.size + 1, i, none⟩ = false := by intro i; rw [hW]; go_simp
  have g0 : Grew w W := by rw [hW]; exact ((Grew.refl _).alloc _).alloc _
  clear hW
  have hNW := hN.grew g0
  have zW := g0.below.size
  go_wp2_with (first | (go_at_call 124; ((with_reducible refine (hfl _).mono ?_); rintro e w1 ⟨rfl, rfl⟩)) | (at_make; refine make_n iundN iinfoN (Grew.refl W) _ _ rfl rfl (l.length + 1) (by omega) rfl rfl (by omega) ?_; intro oo nn g hg hB))
  refine name_any (fun V hV => ?_)
  have gV : Grew W V := by rw [← hV]; (show Grew _ _; repeat (first | (with_reducible exact Grew.refl _) | (with_reducible assumption) | (with_reducible exact Grew.same_o) | (with_reducible exact Grew.app_o) | (with_reducible refine Grew.ext ?_ _ _) | (with_reducible refine Grew.alloc ?_ _) | ((with_reducible refine Grew.setCell ?_ ?_ _); rotate_left; (focus (dsimp only; first | omega | (simp only [size_ext, World.size_alloc, Array.size_append]; omega)))) | (with_reducible refine Grew.drewN ?_ _) | (with_reducible refine Grew.drew ?_)))
  rw [hV] at hB
  clear hV
  have zV := gV.below.size
  have kgV := hB.lt
  have c1 : ∀ i, V.cell? ⟨w.heap.size, i, none⟩ = (#[.bool ng, .slice sa l.length sc, .int .i64 E] : Array Value)[i]? := fun i => (gV.cell s1).trans (b1 i)
  have c2 : ∀ i, V.cell? ⟨w.heap.size + 1, i, none⟩ = (#[.bool false, .slice none 0 0, .int .i64 0] : Array Value)[i]? := fun i => (gV.cell s2).trans (b2 i)
  have fz : ∀ i, V.frozen? ⟨g, i, none⟩ = false := hB.notFrozen
  have fz2 : ∀ i, V.frozen? ⟨w.heap.size + 1, i, none⟩ = false := fun i => (gV.frozen s2).trans (f2 i)
  have k1 : w.heap.size < V.heap.size := by omega
  have k2 : w.heap.size + 1 < V.heap.size := by omega
  have n1 : w.heap.size ≠ g := by omega
  have n2 : w.heap.size + 1 ≠ g := by omega
  have hNV := hNW.grew gV
  clear b1 b2 f1 f2
  go_loopw [8] (fun c wx => ∃ (i : Nat) (m : List Nat) (o : Array Obj) (n : Nat), i ≤ l.length ∧ c = .int .i64 i ∧ wx = ext (upd V g (ia m)) o n ∧ m.length = l.length + 1 ∧ Dg m ∧ dv m = ds (fun j => l.getD j 0) i * P ∧ m.getD i 0 < P ∧ ∀ j, i < j → m.getD j 0 = 0) (fun c _ => l.length - (intOf c).toNat)
  case atStart =>
    refine ⟨0, List.replicate (l.length + 1) 0, #[], V.drawn, Nat.zero_le _, rfl, by rw [hB.self]; exact ext_zero.symm, by simp, Dg.replicate _, by rw [dv_replicate]; simp [ds], ?_, ?_⟩
    · rw [hP]; simpa using Nat.two_pow_pos r
    · intro j _
      rw [List.getD_eq_getElem?_getD, List.getElem?_replicate]; split <;> rfl
  case round =>
    obtain ⟨i, m, o, n, hi, rfl, rfl, hml, hmD, hmV, hm0, hmz⟩ := hrel
    by_cases hlt : i < l.length
    · obtain ⟨blk, so, rfl, hblk, hcl⟩ := hNW.at.2.2 (by omega)
      have hci := (gV.cell hblk).trans (hcl i hlt)
      have kb : blk < V.heap.size := by omega
      have nb : blk ≠ g := by omega
      obtain ⟨d, hd⟩ : ∃ d, d = l.getD i 0 := ⟨_, rfl⟩
      have hd16 : d < 65536 := by rw [hd]; exact hD.get i
      rw [← hd] at hci
      obtain ⟨T, hT⟩ : ∃ T, T = d * P := ⟨_, rfl⟩
      have hP16 : P ≤ 65536 := by rw [hP]; exact pow_le16 (by omega)
      have hT2 : T ≤ 65536 * 65536 := by rw [hT]; exact Nat.mul_le_mul (by omega) hP16
      have a1 : IntKind.i64.wrap ((d : Int) * (P : Int)) = (T : Int) := by rw [IntWalk.i64_in _ (by rw [← Int.natCast_mul, ← hT]; omega), hT]; simp
      obtain ⟨x, hx⟩ : ∃ x, x = m.getD i 0 := ⟨_, rfl⟩
      have hmi : (upd V g (ia m)).cell? ⟨g, i, none⟩ = some (.int .i64 (x : Int)) := by rw [hB.get (by omega), hx]
      have hmi2 : ∀ v, (upd V g ((ia m).setIfInBounds i v)).cell? ⟨g, i + 1, none⟩ = some (.int .i64 (m.getD (i + 1) 0 : Nat)) := fun v => by rw [hB.cells, Array.getElem?_setIfInBounds, if_neg (by omega), ia_get _ (by omega)]
      have hx16 : x < 65536 := by rw [hx]; exact hmD.get i
      have hst := shift_step (l := m) (i := i) (d := d) (r := r) (by omega) hmD hd16 hr16 (by rw [← hP]; exact hm0) hmz
      have hia : i ≤ 200000 := by omega
      have HST := hid hst
      have HMV := hid hmV
      have HH := hid hml
      have HP := hid hP
      have HD := hid hd
      have HX := hid hx
      have HT := hid hT
      clear hst hmV hm0 hmz hml hP hd hx hT hcl hmD
      have m1 : (T : Int).tmod 65536 = ((T % 65536 : Nat) : Int) := by rw [Int.tmod_eq_emod_of_nonneg (by omega)]; omega
      have m2 : (T : Int).tdiv 65536 = ((T / 65536 : Nat) : Int) := by rw [Int.tdiv_eq_ediv_of_nonneg (by omega)]; omega
      go_wp2
      refine wp_region_R (Grew (ext (upd V g (ia m)) o n)) [] [(0,0), (0,1), (0,2), (0,3), (0,4), (0,5), (1,6), (0,7), (0,8)] (by kernel_rfl) (by kernel_rfl) (fun _ _ _ _ h _ => h) (by first | exact ⟨_, _, ext_drew⟩ | exact ⟨_, _, drew_ext0⟩ | (show Grew _ _; repeat (first | (with_reducible exact Grew.refl _) | (with_reducible assumption) | (with_reducible exact Grew.same_o) | (with_reducible exact Grew.app_o) | (with_reducible refine Grew.ext ?_ _ _) | (with_reducible refine Grew.alloc ?_ _) | ((with_reducible refine Grew.setCell ?_ ?_ _); rotate_left; (focus (dsimp only; first | omega | (simp only [size_ext, World.size_alloc, Array.size_append]; omega)))) | (with_reducible refine Grew.drewN ?_ _) | (with_reducible refine Grew.drew ?_)))) ?_
      go_wp2_with (first | ((with_reducible refine wpR_id ?_); first | (refine wpR_take (v := ?_) rfl rfl ?_ ?_; rotate_left; (focus (rintro w' ⟨o', n', rfl⟩; go_simp; try with_reducible rfl)); simp only [Act.put, List.setIfInBounds_toArray, List.set_cons_zero, List.set_cons_succ]) | (refine wpR_pure (v := ?_) rfl rfl ?_ ?_; rotate_left; (focus (intro w'; go_simp; try with_reducible rfl)); simp only [Act.put, List.setIfInBounds_toArray, List.set_cons_zero, List.set_cons_succ]) | (refine wpR_takeG (v := ?_) rfl rfl rfl rfl rfl ?_ ?_; rotate_left; (focus (rintro w' ⟨o', n', rfl⟩; go_simp; try with_reducible rfl)); simp only [Act.put, List.setIfInBounds_toArray, List.set_cons_zero, List.set_cons_succ]) | (refine wpR_skip rfl rfl rfl rfl rfl rfl ?_; simp only [Act.put, List.setIfInBounds_toArray, List.set_cons_zero, List.set_cons_succ]) | (refine wpR_skipU rfl rfl rfl rfl rfl ?_; simp only [Act.put, List.setIfInBounds_toArray, List.set_cons_zero, List.set_cons_succ]) | (refine wpR_do rfl rfl (fun K hK => ?_)) | (refine wpR_doG rfl rfl rfl rfl rfl (fun K hK => ?_)) | (refine wpR_last rfl rfl (fun K hK => ?_)) | (refine wpR_nil ?_)) | ((with_reducible refine wpR_go ?_ ?_); (focus (show Grew _ _; repeat (first | (with_reducible exact Grew.refl _) | (with_reducible assumption) | (with_reducible exact Grew.same_o) | (with_reducible exact Grew.app_o) | (with_reducible refine Grew.ext ?_ _ _) | (with_reducible refine Grew.alloc ?_ _) | ((with_reducible refine Grew.setCell ?_ ?_ _); rotate_left; (focus (dsimp only; first | omega | (simp only [size_ext, World.size_alloc, Array.size_append]; omega)))) | (with_reducible refine Grew.drewN ?_ _) | (with_reducible refine Grew.drew ?_))))) | ((with_reducible refine upon_id ?_); refine upon_fop rfl (by assumption) (by assumption) ?_; intro rr nn hr) | (go_at_call 125; ((with_reducible refine (hpw _).mono ?_); rintro e w1 ⟨rfl, rfl⟩)))
      go_roundw
      case rel =>
        obtain ⟨q1, q2, q3, q4⟩ := HST.out
        refine ⟨i + 1, (m.set i (x + T % 65536)).set (i + 1) (T / 65536), o, n + 1, by omega, by go_num, ?_, by simp; exact HH.out, ?_, ?_, ?_, ?_⟩
        · rw [← ia_set, ← ia_set]
          simp only [Int.natCast_add, Int.natCast_emod, Int.natCast_ediv]
          rfl
        · rw [HX.out, HT.out, HP.out]; exact q2
        · rw [HX.out, HT.out, HP.out, q1, HMV.out]
          show _ = (ds (fun j => l.getD j 0) i + l.getD i 0 * 65536 ^ i) * 2 ^ r
          rw [← HD.out, Nat.add_mul, HP.out, Nat.mul_right_comm d]
        · rw [HX.out, HT.out, HP.out]; exact q3
        · rw [HX.out, HT.out, HP.out]; exact q4
      case measure => simp [intOf]; omega
    · have e : i = l.length := by omega
      have hdv : dv m = dv l * P := by rw [hmV, e, ds_list]
      have hns : NS (ext (upd V g (ia m)) o n) (.slice (some ⟨g, 0, none⟩) (l.length + 1) (l.length + 1)) m := by
        have h5 := hB.mk' m o n
        have h6 := h5.ns (cap := l.length + 1) (by rw [hml]; exact Nat.le_refl _)
        rw [hml] at h6
        exact h6
      have aQ : IntKind.i64.wrap (E + Q) = E + Q := IntWalk.i64_in _ (by omega)
      have HDV := hid hdv
      have HH := hid hml
      subst e
      clear hdv hmV hm0 hmz hml
      go_wp2_with (first | (go_at_call 120; ((with_reducible refine (hmade _ m _ hns hmD HH.out HDV.out).mono ?_); rintro e w1 ⟨v, rfl, hv, hbk, o2, n2, rfl⟩; obtain ⟨vn, va, vl, vc, vE, rfl⟩ := hv.shape)))
      have hbk2 : ∀ k, dBlock (.agg #[.bool vn, .slice va vl vc, .int .i64 vE]) = some k → k = g := fun k hk => by have := hbk k hk; cases this; rfl
      rw [ext_ext] at hv
      refine bodyPost_ret (by simp [results, Try.results32, go_sem, *]; rfl) rfl ?_
      refine ⟨_, rfl, hv.ext_set3 (by simpa using k2) (fun k hk => by have := hbk2 k hk; omega) _ _ _, fun k hk => by have := hbk2 k hk; omega, ?_⟩
      have gU : Grew w (upd V g (ia m)) := (Grew.trans g0 gV).upd (by omega) _
      have gS : ∀ (X : World) i v, Grew w X → Grew w (X.setCell ⟨w.heap.size + 1, i, none⟩ v) := fun X i v h => h.setCell (by show w.heap.size ≤ w.heap.size + 1; omega) v
      exact (gS _ _ _ (gS _ _ _ (gS _ _ _ gU))).ext _ _
end Go.Proofs.Ytcmggfpcbijcjaa
end
section
/-
  Contracts: the reference's digits (layer 2): Of, Int.
-/
set_option linter.unusedSimpArgs false
set_option linter.unusedVariables false
open Go Go.RowKit Sedge
namespace Go.Proofs.Ytcmggfpcbijcjaa
theorem _root_.Sedge.IsF.val {b x : Nat} (h : IsF b x) : val b = val x := by
  cases hn : isNan b
  · rw [← h.2, canon_not hn]
  · have h1 : isNan x = true := by rw [← h.nan]; exact hn
    unfold isNan at hn h1
    obtain ⟨s, t, e1⟩ := isNaN_eq _ hn
    obtain ⟨s', t', e2⟩ := isNaN_eq _ h1
    unfold Sedge.val
    rw [e1, e2]
theorem val_all {b : Nat} (hb : b < 2 ^ 64) : dat (pNeg b) (pMag b) (pExp b) = val b ∧ pMag b < 2 ^ 64 ∧ -1074 ≤ pExp b ∧ pExp b ≤ 971 := by
  have h53 := pMag_lt b
  by_cases hk : pKind b = 0
  · have := pExp_ge b hk
    exact ⟨(val_parts hb hk).symm, by omega, this⟩
  · have hm : pMag b = 0 := by
      unfold pKind at hk
      unfold pMag
      split at hk
      · rename_i h; rw [if_pos h]
      · exact absurd rfl hk
    have he : pExp b = 0 := by
      unfold pKind at hk
      unfold pExp
      split at hk
      · rename_i h; rw [if_pos h]
      · exact absurd rfl hk
    refine ⟨?_, by omega, by omega, by omega⟩
    rw [hm, dat_zero]
    unfold Sedge.val
    rw [read_eq b hb, if_neg hk]
    split <;> rename_i h <;> first | rfl | (split at h <;> cases h)
set_option maxRecDepth 100000 in
set_option maxHeartbeats 2000000 in
/-- Of. -/
theorem of_any (b x : Nat) (w : World) (hb : IsF b x) :
   Calls Try.prog 27 #[.float .f64 b] w (fun e w' => ∃ v, e = .returned v ∧ DV w' v (val x) (-70) 70 ∧ (∀ k, dBlock v = some k → w.heap.size ≤ k) ∧ ∃ o n, w' = ext w o n) := by
  obtain ⟨h1, h2, h3, h4⟩ := val_all hb.1
  rw [hb.val] at h1
  obtain ⟨q0, hq0⟩ : ∃ q0, Hid (q0 = val x) := ⟨_, hid rfl⟩
  rw [← hq0.out] at h1 ⊢
  have hp : ∀ w', Calls Try.prog 116 #[.float .f64 b] w' (fun e w2 => e = .returned (.tuple #[.bool (pNeg b), .int .u64 (pMag b), .int .i64 (pExp b), .int .i64 (pKind b)]) ∧ w' = w2) := fun w' => parts_any b w' hb.1
  have hwh : ∀ w', Calls Try.prog 119 #[.bool (pNeg b), .int .u64 (pMag b)] w' (fun e w2 => ∃ v, e = .returned v ∧ DV w2 v (dat (pNeg b) (pMag b) 0) 0 4 ∧ (∀ k, dBlock v = some k → w'.heap.size ≤ k) ∧ ∃ o n, w2 = ext w' o n) := fun w' => whole_any (pNeg b) (pMag b) w' h2
  generalize pNeg b = N at *
  generalize pMag b = M at *
  generalize pExp b = E at *
  generalize pKind b = K at *
  have hsh : ∀ V w', DV w' V (dat N M 0) 0 4 → Calls Try.prog 32 #[V, .int .i64 E] w' (fun e w2 => ∃ v, e = .returned v ∧ DV w2 v q0 (-70) 70 ∧ (∀ b, dBlock v = some b → w'.heap.size ≤ b) ∧ ∃ o n, w2 = ext w' o n) := fun V w' hv => by
    refine (dshift_any V _ 0 4 E w' hv (by omega) (by omega) (by omega)).mono fun e w2 hh => ?_
    obtain ⟨v, a1, a2, a3, a4⟩ := hh
    refine ⟨v, a1, ?_, a3, a4⟩
    have e1 : dat N M 0 * p2 E = q0 := by
      rw [← h1]; unfold dat; rw [p2_zero]; grind
    rw [e1] at a2
    exact a2.mono (by omega) (by omega)
  clear h1 h2 h3 h4 hq0 hb
  go_enter Try.func27, Try.ntmps27
  refine seq_stop ?_
  go_wp2
  refine stop_go (fun W hW => ?_)
  have s1 : w.heap.size < W.heap.size := by rw [hW]; simp only [World.size_alloc]; omega
  have b1 : ∀ i, W.cell? ⟨w.heap.size, i, none⟩ = (#[.bool false, .slice none 0 0, .int .i64 0] : Array Value)[i]? := by intro i; rw [hW]; go_simp
  have f1 : ∀ i, W.frozen? ⟨w.heap.size, i, none⟩ = false := by intro i; rw [hW]; go_simp
  have g0 : Grew w W := by rw [hW]; exact (Grew.refl _).alloc _
  clear hW
  go_wp2_with (first | (go_at_call 116; ((with_reducible refine (hp _).mono ?_); rintro e w1 ⟨rfl, rfl⟩)) | (go_at_call 119; ((with_reducible refine (hwh _).mono ?_); rintro e w1 ⟨v, rfl, hv, hbk, o2, n2, rfl⟩; obtain ⟨vn, va, vl, vc, vE, rfl⟩ := hv.shape)) | (go_at_call 32; ((with_reducible refine (hsh _ _ hv).mono ?_); rintro e w1 ⟨u, rfl, hu, hbu, o3, n3, rfl⟩; obtain ⟨un, ua, ul, uc, uE, rfl⟩ := hu.shape)))
  rw [ext_ext] at hu
  refine bodyPost_ret (by simp [results, Try.results27, go_sem, *]; rfl) rfl ?_
  exact ⟨_, rfl, hu.ext_set3 s1 (fun k hk => by have := hbu k hk; simp only [size_ext] at this; omega) _ _ _, fun k hk => by have := hbu k hk; simp only [size_ext] at this; omega, grew_set3 g0 (Nat.le_refl _) _ _ _ _ _⟩
set_option maxRecDepth 100000 in
set_option maxHeartbeats 1000000 in
/-- Int, of what is not below 0. -/
theorem dint_any (n : Nat) (w : World) (hn : n ≤ 1000000000) :
   Calls Try.prog 33 #[.int .i64 n] w (fun e w' => ∃ v, e = .returned v ∧ DV w' v (n : Rat) 0 4 ∧ (∀ k, dBlock v = some k → w.heap.size ≤ k) ∧ ∃ o n, w' = ext w o n) := by
  have hwh : ∀ w', Calls Try.prog 119 #[.bool false, .int .u64 n] w' (fun e w2 => ∃ v, e = .returned v ∧ DV w2 v (n : Rat) 0 4 ∧ (∀ k, dBlock v = some k → w'.heap.size ≤ k) ∧ ∃ o n, w2 = ext w' o n) := fun w' => by
    have := whole_any false n w' (by omega)
    rw [show dat false n 0 = (n : Rat) by unfold dat sgn; rw [p2_zero]; simp] at this
    exact this
  have a1 : IntKind.u64.wrap (n : Int) = n := IntWalk.u64_in _ (by omega)
  have d1 : decide ((n : Int) < 0) = false := by simp
  go_enter Try.func33, Try.ntmps33
  refine seq_stop ?_
  go_wp2
  refine stop_go (fun W hW => ?_)
  have s1 : w.heap.size < W.heap.size := by rw [hW]; simp only [World.size_alloc]; omega
  have b1 : ∀ i, W.cell? ⟨w.heap.size, i, none⟩ = (#[.bool false, .slice none 0 0, .int .i64 0] : Array Value)[i]? := by intro i; rw [hW]; go_simp
  have f1 : ∀ i, W.frozen? ⟨w.heap.size, i, none⟩ = false := by intro i; rw [hW]; go_simp
  have g0 : Grew w W := by rw [hW]; exact (Grew.refl _).alloc _
  clear hW
  go_wp2_with (first | (go_at_call 119; ((with_reducible refine (hwh _).mono ?_); rintro e w1 ⟨u, rfl, hu, hbu, o3, n3, rfl⟩; obtain ⟨un, ua, ul, uc, uE, rfl⟩ := hu.shape)))
  refine bodyPost_ret (by simp [results, Try.results33, go_sem, *]; rfl) rfl ?_
  exact ⟨_, rfl, hu.ext_set3 s1 (fun k hk => by have := hbu k hk; omega) _ _ _, fun k hk => by have := hbu k hk; omega, grew_set3 g0 (Nat.le_refl _) _ _ _ _ _⟩
end Go.Proofs.Ytcmggfpcbijcjaa
end
section
/-
  Contracts: the reference's digits (layer 2): at, ends, size.
-/
set_option linter.unusedSimpArgs false
set_option linter.unusedVariables false
open Go Go.RowKit Sedge
namespace Go.Proofs.Ytcmggfpcbijcjaa
set_option maxRecDepth 100000 in
set_option maxHeartbeats 1000000 in
/-- at. -/
theorem dat_at (ng : Bool) (L : Value) (E : Int) (l : List Nat) (p : Int) (w : World) (hN : NS w L l) (hE : -1000000 ≤ E ∧ E ≤ 1000000) (hl : l.length ≤ 1000000) (hp : -1000000 ≤ p ∧ p ≤ 1000000) :
   Calls Try.prog 122 #[.agg #[.bool ng, L, .int .i64 E], .int .i64 p] w (fun e w' => e = .returned (.int .i64 (digAt l E p : Nat)) ∧ ∃ o n, w' = ext w o n) := by
  obtain ⟨sa, sc, rfl⟩ := hN.shape
  have a1 : IntKind.i64.wrap (E + (l.length : Int)) = E + l.length := IntWalk.i64_in _ (by omega)
  have a2 : IntKind.i64.wrap (p - E) = p - E := IntWalk.i64_in _ (by omega)
  by_cases h1 : p < E
  · have d1 : decide (p < E) = true := by simpa using h1
    have q := hid (show digAt l E p = 0 by unfold digAt; rw [if_pos (.inl h1)])
    clear h1
    go_enter Try.func122, Try.ntmps122
    refine seq_stop ?_
    go_wp2
    refine stop_go (fun W hW => ?_)
    have s1 : w.heap.size < W.heap.size := by rw [hW]; simp only [World.size_alloc]; omega
    have b1 : ∀ i, W.cell? ⟨w.heap.size, i, none⟩ = (#[.bool ng, .slice sa l.length sc, .int .i64 E] : Array Value)[i]? := by intro i; rw [hW]; go_simp
    have g0 : Grew w W := by rw [hW]; exact (Grew.refl _).alloc _
    clear hW
    go_wp2
    go_ret
    exact ⟨ret_int (by rw [q.out]; rfl), by (show Grew _ _; repeat (first | (with_reducible exact Grew.refl _) | (with_reducible assumption) | (with_reducible exact Grew.same_o) | (with_reducible exact Grew.app_o) | (with_reducible refine Grew.ext ?_ _ _) | (with_reducible refine Grew.alloc ?_ _) | ((with_reducible refine Grew.setCell ?_ ?_ _); rotate_left; (focus (dsimp only; first | omega | (simp only [size_ext, World.size_alloc, Array.size_append]; omega)))) | (with_reducible refine Grew.drewN ?_ _) | (with_reducible refine Grew.drew ?_)))⟩
  · have d1 : decide (p < E) = false := by simpa using h1
    by_cases h2 : E + l.length ≤ p
    · have d2 : decide (E + (l.length : Int) ≤ p) = true := by simpa using h2
      have q := hid (show digAt l E p = 0 by unfold digAt; rw [if_pos (.inr h2)])
      clear h1 h2
      go_enter Try.func122, Try.ntmps122
      refine seq_stop ?_
      go_wp2
      refine stop_go (fun W hW => ?_)
      have s1 : w.heap.size < W.heap.size := by rw [hW]; simp only [World.size_alloc]; omega
      have b1 : ∀ i, W.cell? ⟨w.heap.size, i, none⟩ = (#[.bool ng, .slice sa l.length sc, .int .i64 E] : Array Value)[i]? := by intro i; rw [hW]; go_simp
      have g0 : Grew w W := by rw [hW]; exact (Grew.refl _).alloc _
      clear hW
      go_wp2
      go_ret
      exact ⟨ret_int (by rw [q.out]; rfl), by (show Grew _ _; repeat (first | (with_reducible exact Grew.refl _) | (with_reducible assumption) | (with_reducible exact Grew.same_o) | (with_reducible exact Grew.app_o) | (with_reducible refine Grew.ext ?_ _ _) | (with_reducible refine Grew.alloc ?_ _) | ((with_reducible refine Grew.setCell ?_ ?_ _); rotate_left; (focus (dsimp only; first | omega | (simp only [size_ext, World.size_alloc, Array.size_append]; omega)))) | (with_reducible refine Grew.drewN ?_ _) | (with_reducible refine Grew.drew ?_)))⟩
    · have d2 : decide (E + (l.length : Int) ≤ p) = false := by simpa using h2
      obtain ⟨i, hi⟩ : ∃ i : Nat, p - E = i := ⟨(p - E).toNat, by omega⟩
      have hil : i < l.length := by omega
      have q := hid (show digAt l E p = l.getD i 0 by unfold digAt; rw [if_neg (by omega)]; congr 1; omega)
      rw [hi] at a2
      obtain ⟨blk, so, rfl, hblk, hc⟩ := hN.at.2.2 (by omega)
      have hci := hc i hil
      obtain ⟨x, hx⟩ : ∃ x, x = l.getD i 0 := ⟨_, rfl⟩
      rw [← hx] at hci q
      clear hx
      clear h1 h2 hc
      go_enter Try.func122, Try.ntmps122
      refine seq_stop ?_
      go_wp2
      refine stop_go (fun W hW => ?_)
      have s1 : w.heap.size < W.heap.size := by rw [hW]; simp only [World.size_alloc]; omega
      have b1 : ∀ i, W.cell? ⟨w.heap.size, i, none⟩ = (#[.bool ng, .slice (some ⟨blk, so, none⟩) l.length sc, .int .i64 E] : Array Value)[i]? := by intro i; rw [hW]; go_simp
      have g0 : Grew w W := by rw [hW]; exact (Grew.refl _).alloc _
      clear hW
      have hcW := (g0.cell hblk).trans hci
      clear hN
      go_wp2
      go_ret
      exact ⟨ret_int (by rw [q.out]), by (show Grew _ _; repeat (first | (with_reducible exact Grew.refl _) | (with_reducible assumption) | (with_reducible exact Grew.same_o) | (with_reducible exact Grew.app_o) | (with_reducible refine Grew.ext ?_ _ _) | (with_reducible refine Grew.alloc ?_ _) | ((with_reducible refine Grew.setCell ?_ ?_ _); rotate_left; (focus (dsimp only; first | omega | (simp only [size_ext, World.size_alloc, Array.size_append]; omega)))) | (with_reducible refine Grew.drewN ?_ _) | (with_reducible refine Grew.drew ?_)))⟩
/-- The places of two numbers. -/
def endF (a b : List Nat) (E F : Int) : Int := if a = [] then F else if b = [] then E else min E F
def endT (a b : List Nat) (E F : Int) : Int := if a = [] then F + b.length else if b = [] then E + a.length else max (E + a.length) (F + b.length)
set_option maxRecDepth 100000 in
set_option maxHeartbeats 2000000 in
/-- ends. -/
theorem ends_any (n1 n2 : Bool) (L1 L2 : Value) (E F : Int) (a b : List Nat) (w : World) (ha : NS w L1 a) (hb : NS w L2 b) (hE : -1000000 ≤ E ∧ E ≤ 1000000) (hF : -1000000 ≤ F ∧ F ≤ 1000000) (hla : a.length ≤ 1000000) (hlb : b.length ≤ 1000000) :
   Calls Try.prog 121 #[.agg #[.bool n1, L1, .int .i64 E], .agg #[.bool n2, L2, .int .i64 F]] w (fun e w' => e = .returned (.tuple #[.int .i64 (endF a b E F), .int .i64 (endT a b E F)]) ∧ ∃ o n, w' = ext w o n) := by
  obtain ⟨s1', c1', rfl⟩ := ha.shape
  obtain ⟨s2', c2', rfl⟩ := hb.shape
  have a1 : IntKind.i64.wrap (E + (a.length : Int)) = E + a.length := IntWalk.i64_in _ (by omega)
  have a2 : IntKind.i64.wrap (F + (b.length : Int)) = F + b.length := IntWalk.i64_in _ (by omega)
  obtain ⟨X, hX⟩ : ∃ X, X = endF a b E F := ⟨_, rfl⟩
  obtain ⟨Y, hY⟩ : ∃ Y, Y = endT a b E F := ⟨_, rfl⟩
  rw [← hX, ← hY]
  clear ha hb
  obtain ⟨la, hla'⟩ : ∃ la, la = a.length := ⟨_, rfl⟩
  obtain ⟨lb, hlb'⟩ : ∃ lb, lb = b.length := ⟨_, rfl⟩
  rw [← hla'] at a1 hla ⊢
  rw [← hlb'] at a2 hlb ⊢
  unfold endT at hY
  rw [← hla', ← hlb'] at hY
  by_cases h1 : a = []
  · subst h1
    have hla0 : la = 0 := hla'
    subst hla0
    have q1 := hid (show X = F by rw [hX]; unfold endF; rw [if_pos rfl])
    have q2 := hid (show Y = F + lb by rw [hY]; rw [if_pos rfl])
    clear hX hY hla' hlb'
    go_enter Try.func121, Try.ntmps121
    refine seq_stop ?_
    go_wp2
    refine stop_go (fun W hW => ?_)
    have s1 : w.heap.size < W.heap.size := by rw [hW]; simp only [World.size_alloc]; omega
    have b1 : ∀ i, W.cell? ⟨w.heap.size, i, none⟩ = (#[.bool n1, .slice s1' 0 c1', .int .i64 E] : Array Value)[i]? := by intro i; rw [hW]; go_simp
    have s2 : w.heap.size + 1 < W.heap.size := by rw [hW]; simp only [World.size_alloc]; omega
    have b2 : ∀ i, W.cell? ⟨w.heap.size + 1, i, none⟩ = (#[.bool n2, .slice s2' lb c2', .int .i64 F] : Array Value)[i]? := by intro i; rw [hW]; go_simp
    have g0 : Grew w W := by rw [hW]; exact ((Grew.refl _).alloc _).alloc _
    clear hW
    go_wp2
    refine wp_region_R (Grew W) [] [(0,0), (0,1), (0,2), (0,3), (0,4), (0,5), (0,6), (0,7), (0,8), (0,9)] (by kernel_rfl) (by kernel_rfl) (fun _ _ _ _ h _ => h) (by first | exact ⟨_, _, ext_drew⟩ | exact ⟨_, _, drew_ext0⟩ | (show Grew _ _; repeat (first | (with_reducible exact Grew.refl _) | (with_reducible assumption) | (with_reducible exact Grew.same_o) | (with_reducible exact Grew.app_o) | (with_reducible refine Grew.ext ?_ _ _) | (with_reducible refine Grew.alloc ?_ _) | ((with_reducible refine Grew.setCell ?_ ?_ _); rotate_left; (focus (dsimp only; first | omega | (simp only [size_ext, World.size_alloc, Array.size_append]; omega)))) | (with_reducible refine Grew.drewN ?_ _) | (with_reducible refine Grew.drew ?_)))) ?_
    go_wp2_with (first | ((with_reducible refine wpR_id ?_); first | (refine wpR_take (v := ?_) rfl rfl ?_ ?_; rotate_left; (focus (rintro w' ⟨o', n', rfl⟩; go_simp; try with_reducible rfl)); simp only [Act.put, List.setIfInBounds_toArray, List.set_cons_zero, List.set_cons_succ]) | (refine wpR_pure (v := ?_) rfl rfl ?_ ?_; rotate_left; (focus (intro w'; go_simp; try with_reducible rfl)); simp only [Act.put, List.setIfInBounds_toArray, List.set_cons_zero, List.set_cons_succ]) | (refine wpR_takeG (v := ?_) rfl rfl rfl rfl rfl ?_ ?_; rotate_left; (focus (rintro w' ⟨o', n', rfl⟩; go_simp; try with_reducible rfl)); simp only [Act.put, List.setIfInBounds_toArray, List.set_cons_zero, List.set_cons_succ]) | (refine wpR_skip rfl rfl rfl rfl rfl rfl ?_; simp only [Act.put, List.setIfInBounds_toArray, List.set_cons_zero, List.set_cons_succ]) | (refine wpR_skipU rfl rfl rfl rfl rfl ?_; simp only [Act.put, List.setIfInBounds_toArray, List.set_cons_zero, List.set_cons_succ]) | (refine wpR_do rfl rfl (fun K hK => ?_)) | (refine wpR_doG rfl rfl rfl rfl rfl (fun K hK => ?_)) | (refine wpR_last rfl rfl (fun K hK => ?_)) | (refine wpR_nil ?_)) | ((with_reducible refine wpR_go ?_ ?_); (focus (show Grew _ _; repeat (first | (with_reducible exact Grew.refl _) | (with_reducible assumption) | (with_reducible exact Grew.same_o) | (with_reducible exact Grew.app_o) | (with_reducible refine Grew.ext ?_ _ _) | (with_reducible refine Grew.alloc ?_ _) | ((with_reducible refine Grew.setCell ?_ ?_ _); rotate_left; (focus (dsimp only; first | omega | (simp only [size_ext, World.size_alloc, Array.size_append]; omega)))) | (with_reducible refine Grew.drewN ?_ _) | (with_reducible refine Grew.drew ?_))))) | ((with_reducible refine upon_id ?_); refine upon_fop rfl (by assumption) (by assumption) ?_; intro rr nn hr))
    refine bodyPost_ret (v := .tuple #[.int .i64 F, .int .i64 (F + lb)]) (by simp [results, Try.results121, go_sem, *]) rfl ?_
    exact ⟨by rw [q1.out, q2.out], by (show Grew _ _; repeat (first | (with_reducible exact Grew.refl _) | (with_reducible assumption) | (with_reducible exact Grew.same_o) | (with_reducible exact Grew.app_o) | (with_reducible refine Grew.ext ?_ _ _) | (with_reducible refine Grew.alloc ?_ _) | ((with_reducible refine Grew.setCell ?_ ?_ _); rotate_left; (focus (dsimp only; first | omega | (simp only [size_ext, World.size_alloc, Array.size_append]; omega)))) | (with_reducible refine Grew.drewN ?_ _) | (with_reducible refine Grew.drew ?_)))⟩
  · have l1 : 0 < la := by rw [hla']; exact List.length_pos_iff.2 h1
    have d1 : ((la : Int) == 0) = false := by rw [beq_eq_false_iff_ne]; omega
    by_cases h2 : b = []
    · subst h2
      have hlb0 : lb = 0 := hlb'
      subst hlb0
      have q1 := hid (show X = E by rw [hX]; unfold endF; rw [if_neg h1, if_pos rfl])
      have q2 := hid (show Y = E + la by rw [hY]; rw [if_neg h1, if_pos rfl])
      clear hX hY hla' hlb'
      go_enter Try.func121, Try.ntmps121
      refine seq_stop ?_
      go_wp2
      refine stop_go (fun W hW => ?_)
      have s1 : w.heap.size < W.heap.size := by rw [hW]; simp only [World.size_alloc]; omega
      have b1 : ∀ i, W.cell? ⟨w.heap.size, i, none⟩ = (#[.bool n1, .slice s1' la c1', .int .i64 E] : Array Value)[i]? := by intro i; rw [hW]; go_simp
      have s2 : w.heap.size + 1 < W.heap.size := by rw [hW]; simp only [World.size_alloc]; omega
      have b2 : ∀ i, W.cell? ⟨w.heap.size + 1, i, none⟩ = (#[.bool n2, .slice s2' 0 c2', .int .i64 F] : Array Value)[i]? := by intro i; rw [hW]; go_simp
      have g0 : Grew w W := by rw [hW]; exact ((Grew.refl _).alloc _).alloc _
      clear hW
      go_wp2
      refine wp_region_R (Grew W) [] [(0,0), (0,1), (0,2), (0,3), (0,4), (0,5), (0,6), (0,7), (0,8), (0,9)] (by kernel_rfl) (by kernel_rfl) (fun _ _ _ _ h _ => h) (by first | exact ⟨_, _, ext_drew⟩ | exact ⟨_, _, drew_ext0⟩ | (show Grew _ _; repeat (first | (with_reducible exact Grew.refl _) | (with_reducible assumption) | (with_reducible exact Grew.same_o) | (with_reducible exact Grew.app_o) | (with_reducible refine Grew.ext ?_ _ _) | (with_reducible refine Grew.alloc ?_ _) | ((with_reducible refine Grew.setCell ?_ ?_ _); rotate_left; (focus (dsimp only; first | omega | (simp only [size_ext, World.size_alloc, Array.size_append]; omega)))) | (with_reducible refine Grew.drewN ?_ _) | (with_reducible refine Grew.drew ?_)))) ?_
      go_wp2_with (first | ((with_reducible refine wpR_id ?_); first | (refine wpR_take (v := ?_) rfl rfl ?_ ?_; rotate_left; (focus (rintro w' ⟨o', n', rfl⟩; go_simp; try with_reducible rfl)); simp only [Act.put, List.setIfInBounds_toArray, List.set_cons_zero, List.set_cons_succ]) | (refine wpR_pure (v := ?_) rfl rfl ?_ ?_; rotate_left; (focus (intro w'; go_simp; try with_reducible rfl)); simp only [Act.put, List.setIfInBounds_toArray, List.set_cons_zero, List.set_cons_succ]) | (refine wpR_takeG (v := ?_) rfl rfl rfl rfl rfl ?_ ?_; rotate_left; (focus (rintro w' ⟨o', n', rfl⟩; go_simp; try with_reducible rfl)); simp only [Act.put, List.setIfInBounds_toArray, List.set_cons_zero, List.set_cons_succ]) | (refine wpR_skip rfl rfl rfl rfl rfl rfl ?_; simp only [Act.put, List.setIfInBounds_toArray, List.set_cons_zero, List.set_cons_succ]) | (refine wpR_skipU rfl rfl rfl rfl rfl ?_; simp only [Act.put, List.setIfInBounds_toArray, List.set_cons_zero, List.set_cons_succ]) | (refine wpR_do rfl rfl (fun K hK => ?_)) | (refine wpR_doG rfl rfl rfl rfl rfl (fun K hK => ?_)) | (refine wpR_last rfl rfl (fun K hK => ?_)) | (refine wpR_nil ?_)) | ((with_reducible refine wpR_go ?_ ?_); (focus (show Grew _ _; repeat (first | (with_reducible exact Grew.refl _) | (with_reducible assumption) | (with_reducible exact Grew.same_o) | (with_reducible exact Grew.app_o) | (with_reducible refine Grew.ext ?_ _ _) | (with_reducible refine Grew.alloc ?_ _) | ((with_reducible refine Grew.setCell ?_ ?_ _); rotate_left; (focus (dsimp only; first | omega | (simp only [size_ext, World.size_alloc, Array.size_append]; omega)))) | (with_reducible refine Grew.drewN ?_ _) | (with_reducible refine Grew.drew ?_))))) | ((with_reducible refine upon_id ?_); refine upon_fop rfl (by assumption) (by assumption) ?_; intro rr nn hr))
      refine bodyPost_ret (v := .tuple #[.int .i64 E, .int .i64 (E + la)]) (by simp [results, Try.results121, go_sem, *]) rfl ?_
      exact ⟨by rw [q1.out, q2.out], by (show Grew _ _; repeat (first | (with_reducible exact Grew.refl _) | (with_reducible assumption) | (with_reducible exact Grew.same_o) | (with_reducible exact Grew.app_o) | (with_reducible refine Grew.ext ?_ _ _) | (with_reducible refine Grew.alloc ?_ _) | ((with_reducible refine Grew.setCell ?_ ?_ _); rotate_left; (focus (dsimp only; first | omega | (simp only [size_ext, World.size_alloc, Array.size_append]; omega)))) | (with_reducible refine Grew.drewN ?_ _) | (with_reducible refine Grew.drew ?_)))⟩
    · have l2 : 0 < lb := by rw [hlb']; exact List.length_pos_iff.2 h2
      have d2 : ((lb : Int) == 0) = false := by rw [beq_eq_false_iff_ne]; omega
      have q1 := hid (show X = min E F by rw [hX]; unfold endF; rw [if_neg h1, if_neg h2])
      have q2 := hid (show Y = max (E + la) (F + lb) by rw [hY]; rw [if_neg h1, if_neg h2])
      clear hX hY hla' hlb'
      have m1 := Int.min_def E F
      go_enter Try.func121, Try.ntmps121
      refine seq_stop ?_
      go_wp2
      refine stop_go (fun W hW => ?_)
      have s1 : w.heap.size < W.heap.size := by rw [hW]; simp only [World.size_alloc]; omega
      have b1 : ∀ i, W.cell? ⟨w.heap.size, i, none⟩ = (#[.bool n1, .slice s1' la c1', .int .i64 E] : Array Value)[i]? := by intro i; rw [hW]; go_simp
      have s2 : w.heap.size + 1 < W.heap.size := by rw [hW]; simp only [World.size_alloc]; omega
      have b2 : ∀ i, W.cell? ⟨w.heap.size + 1, i, none⟩ = (#[.bool n2, .slice s2' lb c2', .int .i64 F] : Array Value)[i]? := by intro i; rw [hW]; go_simp
      have g0 : Grew w W := by rw [hW]; exact ((Grew.refl _).alloc _).alloc _
      clear hW
      go_wp2
      refine wp_region_R (Grew W) [] [(0,0), (0,1), (0,2), (0,3), (0,4), (0,5), (0,6), (0,7), (0,8), (0,9), (0,10), (0,11), (0,12), (0,13), (0,14), (0,15), (0,16), (0,17), (0,18), (0,19)] (by kernel_rfl) (by kernel_rfl) (fun _ _ _ _ h _ => h) (by first | exact ⟨_, _, ext_drew⟩ | exact ⟨_, _, drew_ext0⟩ | (show Grew _ _; repeat (first | (with_reducible exact Grew.refl _) | (with_reducible assumption) | (with_reducible exact Grew.same_o) | (with_reducible exact Grew.app_o) | (with_reducible refine Grew.ext ?_ _ _) | (with_reducible refine Grew.alloc ?_ _) | ((with_reducible refine Grew.setCell ?_ ?_ _); rotate_left; (focus (dsimp only; first | omega | (simp only [size_ext, World.size_alloc, Array.size_append]; omega)))) | (with_reducible refine Grew.drewN ?_ _) | (with_reducible refine Grew.drew ?_)))) ?_
      go_wp2_with (first | ((with_reducible refine wpR_id ?_); first | (refine wpR_take (v := ?_) rfl rfl ?_ ?_; rotate_left; (focus (rintro w' ⟨o', n', rfl⟩; go_simp; try with_reducible rfl)); simp only [Act.put, List.setIfInBounds_toArray, List.set_cons_zero, List.set_cons_succ]) | (refine wpR_pure (v := ?_) rfl rfl ?_ ?_; rotate_left; (focus (intro w'; go_simp; try with_reducible rfl)); simp only [Act.put, List.setIfInBounds_toArray, List.set_cons_zero, List.set_cons_succ]) | (refine wpR_takeG (v := ?_) rfl rfl rfl rfl rfl ?_ ?_; rotate_left; (focus (rintro w' ⟨o', n', rfl⟩; go_simp; try with_reducible rfl)); simp only [Act.put, List.setIfInBounds_toArray, List.set_cons_zero, List.set_cons_succ]) | (refine wpR_skip rfl rfl rfl rfl rfl rfl ?_; simp only [Act.put, List.setIfInBounds_toArray, List.set_cons_zero, List.set_cons_succ]) | (refine wpR_skipU rfl rfl rfl rfl rfl ?_; simp only [Act.put, List.setIfInBounds_toArray, List.set_cons_zero, List.set_cons_succ]) | (refine wpR_do rfl rfl (fun K hK => ?_)) | (refine wpR_doG rfl rfl rfl rfl rfl (fun K hK => ?_)) | (refine wpR_last rfl rfl (fun K hK => ?_)) | (refine wpR_nil ?_)) | ((with_reducible refine wpR_go ?_ ?_); (focus (show Grew _ _; repeat (first | (with_reducible exact Grew.refl _) | (with_reducible assumption) | (with_reducible exact Grew.same_o) | (with_reducible exact Grew.app_o) | (with_reducible refine Grew.ext ?_ _ _) | (with_reducible refine Grew.alloc ?_ _) | ((with_reducible refine Grew.setCell ?_ ?_ _); rotate_left; (focus (dsimp only; first | omega | (simp only [size_ext, World.size_alloc, Array.size_append]; omega)))) | (with_reducible refine Grew.drewN ?_ _) | (with_reducible refine Grew.drew ?_))))) | ((with_reducible refine upon_id ?_); refine upon_fop rfl (by assumption) (by assumption) ?_; intro rr nn hr))
      all_goals (refine bodyPost_ret (by simp [results, Try.results121, go_sem, *]; rfl) rfl ?_; exact ⟨by rw [q1.out, q2.out]; simp; omega, by (show Grew _ _; repeat (first | (with_reducible exact Grew.refl _) | (with_reducible assumption) | (with_reducible exact Grew.same_o) | (with_reducible exact Grew.app_o) | (with_reducible refine Grew.ext ?_ _ _) | (with_reducible refine Grew.alloc ?_ _) | ((with_reducible refine Grew.setCell ?_ ?_ _); rotate_left; (focus (dsimp only; first | omega | (simp only [size_ext, World.size_alloc, Array.size_append]; omega)))) | (with_reducible refine Grew.drewN ?_ _) | (with_reducible refine Grew.drew ?_)))⟩)
end Go.Proofs.Ytcmggfpcbijcjaa
end
section
/-
  Contracts: the reference's digits (layer 2): size.
-/
set_option linter.unusedSimpArgs false
set_option linter.unusedVariables false
open Go Go.RowKit Sedge
namespace Go.Proofs.Ytcmggfpcbijcjaa
def szE (f g : Nat → Nat) (n : Nat) : Int := if ds f n < ds g n then -1 else if ds g n < ds f n then 1 else 0
theorem end_le {a b : List Nat} {E F : Int} : endF a b E F ≤ endT a b E F := by
  unfold endF endT
  split
  · omega
  · split <;> omega
theorem end_bound {a b : List Nat} {E F : Int} {B : Nat} (hE : -B ≤ E ∧ E ≤ B) (hF : -B ≤ F ∧ F ≤ B) (hla : a.length ≤ B) (hlb : b.length ≤ B) : -B ≤ endF a b E F ∧ endF a b E F ≤ B ∧ endT a b E F ≤ 2 * B := by
  unfold endF endT
  split
  · omega
  · split <;> omega
set_option maxRecDepth 100000 in
set_option maxHeartbeats 2000000 in
/-- size. -/
theorem size_any (n1 n2 : Bool) (L1 L2 : Value) (E F : Int) (a b : List Nat) (w : World) (ha : NS w L1 a) (hb : NS w L2 b) (hda : Dg a) (hdb : Dg b) (hE : -400000 ≤ E ∧ E ≤ 400000) (hF : -400000 ≤ F ∧ F ≤ 400000) (hla : a.length ≤ 400000) (hlb : b.length ≤ 400000) :
   Calls Try.prog 123 #[.agg #[.bool n1, L1, .int .i64 E], .agg #[.bool n2, L2, .int .i64 F]] w (fun e w' => e = .returned (.int .i64 (szE (fun k => digAt a E (endF a b E F + k)) (fun k => digAt b F (endF a b E F + k)) (endT a b E F - endF a b E F).toNat)) ∧ ∃ o n, w' = ext w o n) := by
  obtain ⟨s1', c1', e1⟩ := ha.shape
  obtain ⟨s2', c2', e2⟩ := hb.shape
  subst e1 e2
  have hle := end_le (a := a) (b := b) (E := E) (F := F)
  have hbd := end_bound (a := a) (b := b) (E := E) (F := F) (B := 400000) (by omega) (by omega) (by omega) (by omega)
  have hends : ∀ w', Grew w w' → Calls Try.prog 121 #[.agg #[.bool n1, .slice s1' a.length c1', .int .i64 E], .agg #[.bool n2, .slice s2' b.length c2', .int .i64 F]] w' (fun e w2 => e = .returned (.tuple #[.int .i64 (endF a b E F), .int .i64 (endT a b E F)]) ∧ ∃ o n, w2 = ext w' o n) := fun w' g =>
    ends_any n1 n2 _ _ E F a b w' (ha.grew g) (hb.grew g) (by omega) (by omega) (by omega) (by omega)
  obtain ⟨f, hf⟩ : ∃ f, f = fun k : Nat => digAt a E (endF a b E F + k) := ⟨_, rfl⟩
  obtain ⟨g, hg⟩ : ∃ g, g = fun k : Nat => digAt b F (endF a b E F + k) := ⟨_, rfl⟩
  rw [← hf, ← hg]
  have hf16 : ∀ k, f k < 65536 := fun k => by rw [hf]; exact digAt_lt hda _ _
  have hg16 : ∀ k, g k < 65536 := fun k => by rw [hg]; exact digAt_lt hdb _ _
  generalize hA : endF a b E F = A at *
  generalize hT : endT a b E F = T at *
  obtain ⟨n, hn⟩ : ∃ n : Nat, T = A + n := ⟨(T - A).toNat, by omega⟩
  have hnn : (T - A).toNat = n := by omega
  rw [hnn]
  have hn2 : n ≤ 3000000 := by omega
  have hat1 : ∀ (k : Nat) w', k < n → Grew w w' → Calls Try.prog 122 #[.agg #[.bool n1, .slice s1' a.length c1', .int .i64 E], .int .i64 (A + k)] w' (fun e w2 => e = .returned (.int .i64 (f k : Nat)) ∧ ∃ o n, w2 = ext w' o n) := fun k w' hk gg => by
    rw [hf]; exact dat_at n1 _ E a (A + k) w' (ha.grew gg) (by omega) (by omega) (by omega)
  have hat2 : ∀ (k : Nat) w', k < n → Grew w w' → Calls Try.prog 122 #[.agg #[.bool n2, .slice s2' b.length c2', .int .i64 F], .int .i64 (A + k)] w' (fun e w2 => e = .returned (.int .i64 (g k : Nat)) ∧ ∃ o n, w2 = ext w' o n) := fun k w' hk gg => by
    rw [hg]; exact dat_at n2 _ F b (A + k) w' (hb.grew gg) (by omega) (by omega) (by omega)
  obtain ⟨R, hR⟩ : ∃ R, Hid (R = szE f g n) := ⟨_, hid rfl⟩
  rw [← hR.out]
  clear hf hg hE hF hla hlb ha hb hA hT hnn hle
  subst hn
  obtain ⟨la, hla'⟩ : ∃ la, la = a.length := ⟨_, rfl⟩
  obtain ⟨lb, hlb'⟩ : ∃ lb, lb = b.length := ⟨_, rfl⟩
  rw [← hla', ← hlb'] at hends ⊢
  rw [← hla'] at hat1
  rw [← hlb'] at hat2
  clear hla' hlb'
  go_enter Try.func123, Try.ntmps123
  refine seq_stop ?_
  go_wp2
  refine stop_go (fun W hW => ?_)
  have s1 : w.heap.size < W.heap.size := by rw [hW]; simp only [World.size_alloc]; omega
  have b1 : ∀ i, W.cell? ⟨w.heap.size, i, none⟩ = (#[.bool n1, .slice s1' la c1', .int .i64 E] : Array Value)[i]? := by intro i; rw [hW]; go_simp
  have s2 : w.heap.size + 1 < W.heap.size := by rw [hW]; simp only [World.size_alloc]; omega
  have b2 : ∀ i, W.cell? ⟨w.heap.size + 1, i, none⟩ = (#[.bool n2, .slice s2' lb c2', .int .i64 F] : Array Value)[i]? := by intro i; rw [hW]; go_simp
  have g0 : Grew w W := by rw [hW]; exact ((Grew.refl _).alloc _).alloc _
  clear hW
  go_wp2_with (first | (go_at_call 121; ((with_reducible refine (hends _ (Grew.trans g0 (by (show Grew _ _; repeat (first | (with_reducible exact Grew.refl _) | (with_reducible assumption) | (with_reducible exact Grew.same_o) | (with_reducible exact Grew.app_o) | (with_reducible refine Grew.ext ?_ _ _) | (with_reducible refine Grew.alloc ?_ _) | ((with_reducible refine Grew.setCell ?_ ?_ _); rotate_left; (focus (dsimp only; first | omega | (simp only [size_ext, World.size_alloc, Array.size_append]; omega)))) | (with_reducible refine Grew.drewN ?_ _) | (with_reducible refine Grew.drew ?_)))))).mono ?_); rintro e w1 ⟨rfl, o1, k1, rfl⟩)))
  refine name_any (fun V hV => ?_)
  have gV : Grew W V := by rw [← hV]; (show Grew _ _; repeat (first | (with_reducible exact Grew.refl _) | (with_reducible assumption) | (with_reducible exact Grew.same_o) | (with_reducible exact Grew.app_o) | (with_reducible refine Grew.ext ?_ _ _) | (with_reducible refine Grew.alloc ?_ _) | ((with_reducible refine Grew.setCell ?_ ?_ _); rotate_left; (focus (dsimp only; first | omega | (simp only [size_ext, World.size_alloc, Array.size_append]; omega)))) | (with_reducible refine Grew.drewN ?_ _) | (with_reducible refine Grew.drew ?_)))
  have c1 : ∀ i, V.cell? ⟨w.heap.size, i, none⟩ = (#[.bool n1, .slice s1' la c1', .int .i64 E] : Array Value)[i]? := fun i => (gV.cell s1).trans (b1 i)
  have c2 : ∀ i, V.cell? ⟨w.heap.size + 1, i, none⟩ = (#[.bool n2, .slice s2' lb c2', .int .i64 F] : Array Value)[i]? := fun i => (gV.cell s2).trans (b2 i)
  have zV := gV.below.size
  have z1 : w.heap.size < V.heap.size := by omega
  have z2 : w.heap.size + 1 < V.heap.size := by omega
  have gw : Grew w V := Grew.trans g0 gV
  clear hV gV b1 b2
  go_loopw [7] (fun c wx => ∃ (k : Nat) (P : Int), k ≤ n ∧ P + 1 = A + k ∧ c = .int .i64 P ∧ (∀ j, k ≤ j → j < n → f j = g j) ∧ ∃ o n, wx = ext V o n) (fun c _ => (intOf c - A + 1).toNat)
  case atStart => exact ⟨n, A + n - 1, Nat.le_refl _, by omega, by go_num, fun j h1 h2 => by omega, _, _, ext_zero.symm⟩
  case round =>
    obtain ⟨k, P, hk, hP, rfl, heq, o2, m2, rfl⟩ := hrel
    cases k with
    | zero =>
      have hP' : P = A - 1 := by omega
      have q : R = 0 := by
        rw [hR.out]; unfold szE
        rw [ds_congr (fun j hj => heq j (Nat.zero_le _) hj), if_neg (Nat.lt_irrefl _), if_neg (Nat.lt_irrefl _)]
      have HQ := hid q
      clear heq q hP
      go_wp2
      go_ret
      exact ⟨ret_int HQ.out.symm, by (show Grew _ _; repeat (first | (with_reducible exact Grew.refl _) | (with_reducible assumption) | (with_reducible exact Grew.same_o) | (with_reducible exact Grew.app_o) | (with_reducible refine Grew.ext ?_ _ _) | (with_reducible refine Grew.alloc ?_ _) | ((with_reducible refine Grew.setCell ?_ ?_ _); rotate_left; (focus (dsimp only; first | omega | (simp only [size_ext, World.size_alloc, Array.size_append]; omega)))) | (with_reducible refine Grew.drewN ?_ _) | (with_reducible refine Grew.drew ?_)))⟩
    | succ k =>
      have hP' : P = A + k := by omega
      clear hP
      subst hP'
      have h1 := fun w' p => hat1 k w' (by omega) (Grew.trans gw p)
      have h2 := fun w' p => hat2 k w' (by omega) (Grew.trans gw p)
      have hfk := hf16 k
      have hgk := hg16 k
      have hval : f k = g k ∨ f k < g k ∨ g k < f k := by omega
      have HE := hid heq
      obtain ⟨x, hx⟩ : ∃ x, x = f k := ⟨_, rfl⟩
      obtain ⟨y, hy⟩ : ∃ y, y = g k := ⟨_, rfl⟩
      rw [← hx] at h1 hval hfk
      rw [← hy] at h2 hval hgk
      have HX := hid hx
      have HY := hid hy
      clear heq hx hy
      rcases hval with hv | hv | hv
      · subst hv
        have d1 : ((x : Int) != (x : Int)) = false := by simp
        go_wp2
        refine wp_region_R (Grew V) [] [(0,0), (0,1), (0,3), (0,4), (1,2), (1,5), (0,6)] (by kernel_rfl) (by kernel_rfl) (fun _ _ _ _ h _ => h) (by first | exact ⟨_, _, ext_drew⟩ | exact ⟨_, _, drew_ext0⟩ | (show Grew _ _; repeat (first | (with_reducible exact Grew.refl _) | (with_reducible assumption) | (with_reducible exact Grew.same_o) | (with_reducible exact Grew.app_o) | (with_reducible refine Grew.ext ?_ _ _) | (with_reducible refine Grew.alloc ?_ _) | ((with_reducible refine Grew.setCell ?_ ?_ _); rotate_left; (focus (dsimp only; first | omega | (simp only [size_ext, World.size_alloc, Array.size_append]; omega)))) | (with_reducible refine Grew.drewN ?_ _) | (with_reducible refine Grew.drew ?_)))) ?_
        go_wp2_with (first | ((with_reducible refine wpR_id ?_); first | (refine wpR_take (v := ?_) rfl rfl ?_ ?_; rotate_left; (focus (rintro w' ⟨o', n', rfl⟩; go_simp; try with_reducible rfl)); simp only [Act.put, List.setIfInBounds_toArray, List.set_cons_zero, List.set_cons_succ]) | (refine wpR_pure (v := ?_) rfl rfl ?_ ?_; rotate_left; (focus (intro w'; go_simp; try with_reducible rfl)); simp only [Act.put, List.setIfInBounds_toArray, List.set_cons_zero, List.set_cons_succ]) | (refine wpR_takeG (v := ?_) rfl rfl rfl rfl rfl ?_ ?_; rotate_left; (focus (rintro w' ⟨o', n', rfl⟩; go_simp; try with_reducible rfl)); simp only [Act.put, List.setIfInBounds_toArray, List.set_cons_zero, List.set_cons_succ]) | (refine wpR_skip rfl rfl rfl rfl rfl rfl ?_; simp only [Act.put, List.setIfInBounds_toArray, List.set_cons_zero, List.set_cons_succ]) | (refine wpR_skipU rfl rfl rfl rfl rfl ?_; simp only [Act.put, List.setIfInBounds_toArray, List.set_cons_zero, List.set_cons_succ]) | (refine wpR_do rfl rfl (fun K hK => ?_)) | (refine wpR_doG rfl rfl rfl rfl rfl (fun K hK => ?_)) | (refine wpR_last rfl rfl (fun K hK => ?_)) | (refine wpR_nil ?_)) | ((with_reducible refine wpR_go ?_ ?_); (focus (show Grew _ _; repeat (first | (with_reducible exact Grew.refl _) | (with_reducible assumption) | (with_reducible exact Grew.same_o) | (with_reducible exact Grew.app_o) | (with_reducible refine Grew.ext ?_ _ _) | (with_reducible refine Grew.alloc ?_ _) | ((with_reducible refine Grew.setCell ?_ ?_ _); rotate_left; (focus (dsimp only; first | omega | (simp only [size_ext, World.size_alloc, Array.size_append]; omega)))) | (with_reducible refine Grew.drewN ?_ _) | (with_reducible refine Grew.drew ?_))))) | ((with_reducible refine upon_id ?_); refine upon_fop rfl (by assumption) (by assumption) ?_; intro rr nn hr) | (go_at_call 122; ((with_reducible refine (h1 _ (by (show Grew _ _; repeat (first | (with_reducible exact Grew.refl _) | (with_reducible assumption) | (with_reducible exact Grew.same_o) | (with_reducible exact Grew.app_o) | (with_reducible refine Grew.ext ?_ _ _) | (with_reducible refine Grew.alloc ?_ _) | ((with_reducible refine Grew.setCell ?_ ?_ _); rotate_left; (focus (dsimp only; first | omega | (simp only [size_ext, World.size_alloc, Array.size_append]; omega)))) | (with_reducible refine Grew.drewN ?_ _) | (with_reducible refine Grew.drew ?_))))).mono ?_); rintro e w1 ⟨rfl, oa, ka, rfl⟩)) | (go_at_call 122; ((with_reducible refine (h2 _ (by (show Grew _ _; repeat (first | (with_reducible exact Grew.refl _) | (with_reducible assumption) | (with_reducible exact Grew.same_o) | (with_reducible exact Grew.app_o) | (with_reducible refine Grew.ext ?_ _ _) | (with_reducible refine Grew.alloc ?_ _) | ((with_reducible refine Grew.setCell ?_ ?_ _); rotate_left; (focus (dsimp only; first | omega | (simp only [size_ext, World.size_alloc, Array.size_append]; omega)))) | (with_reducible refine Grew.drewN ?_ _) | (with_reducible refine Grew.drew ?_))))).mono ?_); rintro e w1 ⟨rfl, ob, kb, rfl⟩)))
        go_roundw
        case rel =>
          refine ⟨k, A + k - 1, by omega, by omega, by go_num, fun j h1 h2 => ?_, _, _, rfl⟩
          by_cases hj : j = k
          · subst hj; rw [← HX.out, ← HY.out]
          · exact HE.out j (by omega) h2
        case measure => simp [intOf]; omega
      · have d1 : ((x : Int) != (y : Int)) = true := by simp; omega
        have d2 : decide ((x : Int) < (y : Int)) = true := by simpa using hv
        have q : R = -1 := by
          rw [hR.out]; unfold szE
          rw [if_pos (ds_less hf16 (p := k) hk (by rw [← HX.out, ← HY.out]; exact hv) (fun j h1 h2 => HE.out j h1 h2))]
        have HQ := hid q
        clear q
        go_wp2
        refine wp_region_R (Grew V) [] [(0,0), (0,1), (0,3), (0,4), (1,2), (1,5), (0,6)] (by kernel_rfl) (by kernel_rfl) (fun _ _ _ _ h _ => h) (by first | exact ⟨_, _, ext_drew⟩ | exact ⟨_, _, drew_ext0⟩ | (show Grew _ _; repeat (first | (with_reducible exact Grew.refl _) | (with_reducible assumption) | (with_reducible exact Grew.same_o) | (with_reducible exact Grew.app_o) | (with_reducible refine Grew.ext ?_ _ _) | (with_reducible refine Grew.alloc ?_ _) | ((with_reducible refine Grew.setCell ?_ ?_ _); rotate_left; (focus (dsimp only; first | omega | (simp only [size_ext, World.size_alloc, Array.size_append]; omega)))) | (with_reducible refine Grew.drewN ?_ _) | (with_reducible refine Grew.drew ?_)))) ?_
        go_wp2_with (first | ((with_reducible refine wpR_id ?_); first | (refine wpR_take (v := ?_) rfl rfl ?_ ?_; rotate_left; (focus (rintro w' ⟨o', n', rfl⟩; go_simp; try with_reducible rfl)); simp only [Act.put, List.setIfInBounds_toArray, List.set_cons_zero, List.set_cons_succ]) | (refine wpR_pure (v := ?_) rfl rfl ?_ ?_; rotate_left; (focus (intro w'; go_simp; try with_reducible rfl)); simp only [Act.put, List.setIfInBounds_toArray, List.set_cons_zero, List.set_cons_succ]) | (refine wpR_takeG (v := ?_) rfl rfl rfl rfl rfl ?_ ?_; rotate_left; (focus (rintro w' ⟨o', n', rfl⟩; go_simp; try with_reducible rfl)); simp only [Act.put, List.setIfInBounds_toArray, List.set_cons_zero, List.set_cons_succ]) | (refine wpR_skip rfl rfl rfl rfl rfl rfl ?_; simp only [Act.put, List.setIfInBounds_toArray, List.set_cons_zero, List.set_cons_succ]) | (refine wpR_skipU rfl rfl rfl rfl rfl ?_; simp only [Act.put, List.setIfInBounds_toArray, List.set_cons_zero, List.set_cons_succ]) | (refine wpR_do rfl rfl (fun K hK => ?_)) | (refine wpR_doG rfl rfl rfl rfl rfl (fun K hK => ?_)) | (refine wpR_last rfl rfl (fun K hK => ?_)) | (refine wpR_nil ?_)) | ((with_reducible refine wpR_go ?_ ?_); (focus (show Grew _ _; repeat (first | (with_reducible exact Grew.refl _) | (with_reducible assumption) | (with_reducible exact Grew.same_o) | (with_reducible exact Grew.app_o) | (with_reducible refine Grew.ext ?_ _ _) | (with_reducible refine Grew.alloc ?_ _) | ((with_reducible refine Grew.setCell ?_ ?_ _); rotate_left; (focus (dsimp only; first | omega | (simp only [size_ext, World.size_alloc, Array.size_append]; omega)))) | (with_reducible refine Grew.drewN ?_ _) | (with_reducible refine Grew.drew ?_))))) | ((with_reducible refine upon_id ?_); refine upon_fop rfl (by assumption) (by assumption) ?_; intro rr nn hr) | (go_at_call 122; ((with_reducible refine (h1 _ (by (show Grew _ _; repeat (first | (with_reducible exact Grew.refl _) | (with_reducible assumption) | (with_reducible exact Grew.same_o) | (with_reducible exact Grew.app_o) | (with_reducible refine Grew.ext ?_ _ _) | (with_reducible refine Grew.alloc ?_ _) | ((with_reducible refine Grew.setCell ?_ ?_ _); rotate_left; (focus (dsimp only; first | omega | (simp only [size_ext, World.size_alloc, Array.size_append]; omega)))) | (with_reducible refine Grew.drewN ?_ _) | (with_reducible refine Grew.drew ?_))))).mono ?_); rintro e w1 ⟨rfl, oa, ka, rfl⟩)) | (go_at_call 122; ((with_reducible refine (h2 _ (by (show Grew _ _; repeat (first | (with_reducible exact Grew.refl _) | (with_reducible assumption) | (with_reducible exact Grew.same_o) | (with_reducible exact Grew.app_o) | (with_reducible refine Grew.ext ?_ _ _) | (with_reducible refine Grew.alloc ?_ _) | ((with_reducible refine Grew.setCell ?_ ?_ _); rotate_left; (focus (dsimp only; first | omega | (simp only [size_ext, World.size_alloc, Array.size_append]; omega)))) | (with_reducible refine Grew.drewN ?_ _) | (with_reducible refine Grew.drew ?_))))).mono ?_); rintro e w1 ⟨rfl, ob, kb, rfl⟩)))
        refine wp_region_R (Grew V) [] [(0,0), (0,1), (0,3), (0,4), (1,2), (1,5), (0,6)] (by kernel_rfl) (by kernel_rfl) (fun _ _ _ _ h _ => h) (by first | exact ⟨_, _, ext_drew⟩ | exact ⟨_, _, drew_ext0⟩ | (show Grew _ _; repeat (first | (with_reducible exact Grew.refl _) | (with_reducible assumption) | (with_reducible exact Grew.same_o) | (with_reducible exact Grew.app_o) | (with_reducible refine Grew.ext ?_ _ _) | (with_reducible refine Grew.alloc ?_ _) | ((with_reducible refine Grew.setCell ?_ ?_ _); rotate_left; (focus (dsimp only; first | omega | (simp only [size_ext, World.size_alloc, Array.size_append]; omega)))) | (with_reducible refine Grew.drewN ?_ _) | (with_reducible refine Grew.drew ?_)))) ?_
        go_wp2_with (first | ((with_reducible refine wpR_id ?_); first | (refine wpR_take (v := ?_) rfl rfl ?_ ?_; rotate_left; (focus (rintro w' ⟨o', n', rfl⟩; go_simp; try with_reducible rfl)); simp only [Act.put, List.setIfInBounds_toArray, List.set_cons_zero, List.set_cons_succ]) | (refine wpR_pure (v := ?_) rfl rfl ?_ ?_; rotate_left; (focus (intro w'; go_simp; try with_reducible rfl)); simp only [Act.put, List.setIfInBounds_toArray, List.set_cons_zero, List.set_cons_succ]) | (refine wpR_takeG (v := ?_) rfl rfl rfl rfl rfl ?_ ?_; rotate_left; (focus (rintro w' ⟨o', n', rfl⟩; go_simp; try with_reducible rfl)); simp only [Act.put, List.setIfInBounds_toArray, List.set_cons_zero, List.set_cons_succ]) | (refine wpR_skip rfl rfl rfl rfl rfl rfl ?_; simp only [Act.put, List.setIfInBounds_toArray, List.set_cons_zero, List.set_cons_succ]) | (refine wpR_skipU rfl rfl rfl rfl rfl ?_; simp only [Act.put, List.setIfInBounds_toArray, List.set_cons_zero, List.set_cons_succ]) | (refine wpR_do rfl rfl (fun K hK => ?_)) | (refine wpR_doG rfl rfl rfl rfl rfl (fun K hK => ?_)) | (refine wpR_last rfl rfl (fun K hK => ?_)) | (refine wpR_nil ?_)) | ((with_reducible refine wpR_go ?_ ?_); (focus (show Grew _ _; repeat (first | (with_reducible exact Grew.refl _) | (with_reducible assumption) | (with_reducible exact Grew.same_o) | (with_reducible exact Grew.app_o) | (with_reducible refine Grew.ext ?_ _ _) | (with_reducible refine Grew.alloc ?_ _) | ((with_reducible refine Grew.setCell ?_ ?_ _); rotate_left; (focus (dsimp only; first | omega | (simp only [size_ext, World.size_alloc, Array.size_append]; omega)))) | (with_reducible refine Grew.drewN ?_ _) | (with_reducible refine Grew.drew ?_))))) | ((with_reducible refine upon_id ?_); refine upon_fop rfl (by assumption) (by assumption) ?_; intro rr nn hr) | (go_at_call 122; ((with_reducible refine (h1 _ (by (show Grew _ _; repeat (first | (with_reducible exact Grew.refl _) | (with_reducible assumption) | (with_reducible exact Grew.same_o) | (with_reducible exact Grew.app_o) | (with_reducible refine Grew.ext ?_ _ _) | (with_reducible refine Grew.alloc ?_ _) | ((with_reducible refine Grew.setCell ?_ ?_ _); rotate_left; (focus (dsimp only; first | omega | (simp only [size_ext, World.size_alloc, Array.size_append]; omega)))) | (with_reducible refine Grew.drewN ?_ _) | (with_reducible refine Grew.drew ?_))))).mono ?_); rintro e w1 ⟨rfl, oc, kc, rfl⟩)) | (go_at_call 122; ((with_reducible refine (h2 _ (by (show Grew _ _; repeat (first | (with_reducible exact Grew.refl _) | (with_reducible assumption) | (with_reducible exact Grew.same_o) | (with_reducible exact Grew.app_o) | (with_reducible refine Grew.ext ?_ _ _) | (with_reducible refine Grew.alloc ?_ _) | ((with_reducible refine Grew.setCell ?_ ?_ _); rotate_left; (focus (dsimp only; first | omega | (simp only [size_ext, World.size_alloc, Array.size_append]; omega)))) | (with_reducible refine Grew.drewN ?_ _) | (with_reducible refine Grew.drew ?_))))).mono ?_); rintro e w1 ⟨rfl, od, kd, rfl⟩)))
        go_ret
        exact ⟨ret_int HQ.out.symm, by (show Grew _ _; repeat (first | (with_reducible exact Grew.refl _) | (with_reducible assumption) | (with_reducible exact Grew.same_o) | (with_reducible exact Grew.app_o) | (with_reducible refine Grew.ext ?_ _ _) | (with_reducible refine Grew.alloc ?_ _) | ((with_reducible refine Grew.setCell ?_ ?_ _); rotate_left; (focus (dsimp only; first | omega | (simp only [size_ext, World.size_alloc, Array.size_append]; omega)))) | (with_reducible refine Grew.drewN ?_ _) | (with_reducible refine Grew.drew ?_)))⟩
      · have d1 : ((x : Int) != (y : Int)) = true := by simp; omega
        have d2 : decide ((x : Int) < (y : Int)) = false := by simp; omega
        have q : R = 1 := by
          have hlt : ds g n < ds f n := ds_less hg16 (p := k) hk (by rw [← HX.out, ← HY.out]; exact hv) (fun j h1 h2 => (HE.out j h1 h2).symm)
          rw [hR.out]; unfold szE
          rw [if_neg (by omega), if_pos hlt]
        have HQ := hid q
        clear q
        go_wp2
        refine wp_region_R (Grew V) [] [(0,0), (0,1), (0,3), (0,4), (1,2), (1,5), (0,6)] (by kernel_rfl) (by kernel_rfl) (fun _ _ _ _ h _ => h) (by first | exact ⟨_, _, ext_drew⟩ | exact ⟨_, _, drew_ext0⟩ | (show Grew _ _; repeat (first | (with_reducible exact Grew.refl _) | (with_reducible assumption) | (with_reducible exact Grew.same_o) | (with_reducible exact Grew.app_o) | (with_reducible refine Grew.ext ?_ _ _) | (with_reducible refine Grew.alloc ?_ _) | ((with_reducible refine Grew.setCell ?_ ?_ _); rotate_left; (focus (dsimp only; first | omega | (simp only [size_ext, World.size_alloc, Array.size_append]; omega)))) | (with_reducible refine Grew.drewN ?_ _) | (with_reducible refine Grew.drew ?_)))) ?_
        go_wp2_with (first | ((with_reducible refine wpR_id ?_); first | (refine wpR_take (v := ?_) rfl rfl ?_ ?_; rotate_left; (focus (rintro w' ⟨o', n', rfl⟩; go_simp; try with_reducible rfl)); simp only [Act.put, List.setIfInBounds_toArray, List.set_cons_zero, List.set_cons_succ]) | (refine wpR_pure (v := ?_) rfl rfl ?_ ?_; rotate_left; (focus (intro w'; go_simp; try with_reducible rfl)); simp only [Act.put, List.setIfInBounds_toArray, List.set_cons_zero, List.set_cons_succ]) | (refine wpR_takeG (v := ?_) rfl rfl rfl rfl rfl ?_ ?_; rotate_left; (focus (rintro w' ⟨o', n', rfl⟩; go_simp; try with_reducible rfl)); simp only [Act.put, List.setIfInBounds_toArray, List.set_cons_zero, List.set_cons_succ]) | (refine wpR_skip rfl rfl rfl rfl rfl rfl ?_; simp only [Act.put, List.setIfInBounds_toArray, List.set_cons_zero, List.set_cons_succ]) | (refine wpR_skipU rfl rfl rfl rfl rfl ?_; simp only [Act.put, List.setIfInBounds_toArray, List.set_cons_zero, List.set_cons_succ]) | (refine wpR_do rfl rfl (fun K hK => ?_)) | (refine wpR_doG rfl rfl rfl rfl rfl (fun K hK => ?_)) | (refine wpR_last rfl rfl (fun K hK => ?_)) | (refine wpR_nil ?_)) | ((with_reducible refine wpR_go ?_ ?_); (focus (show Grew _ _; repeat (first | (with_reducible exact Grew.refl _) | (with_reducible assumption) | (with_reducible exact Grew.same_o) | (with_reducible exact Grew.app_o) | (with_reducible refine Grew.ext ?_ _ _) | (with_reducible refine Grew.alloc ?_ _) | ((with_reducible refine Grew.setCell ?_ ?_ _); rotate_left; (focus (dsimp only; first | omega | (simp only [size_ext, World.size_alloc, Array.size_append]; omega)))) | (with_reducible refine Grew.drewN ?_ _) | (with_reducible refine Grew.drew ?_))))) | ((with_reducible refine upon_id ?_); refine upon_fop rfl (by assumption) (by assumption) ?_; intro rr nn hr) | (go_at_call 122; ((with_reducible refine (h1 _ (by (show Grew _ _; repeat (first | (with_reducible exact Grew.refl _) | (with_reducible assumption) | (with_reducible exact Grew.same_o) | (with_reducible exact Grew.app_o) | (with_reducible refine Grew.ext ?_ _ _) | (with_reducible refine Grew.alloc ?_ _) | ((with_reducible refine Grew.setCell ?_ ?_ _); rotate_left; (focus (dsimp only; first | omega | (simp only [size_ext, World.size_alloc, Array.size_append]; omega)))) | (with_reducible refine Grew.drewN ?_ _) | (with_reducible refine Grew.drew ?_))))).mono ?_); rintro e w1 ⟨rfl, oa, ka, rfl⟩)) | (go_at_call 122; ((with_reducible refine (h2 _ (by (show Grew _ _; repeat (first | (with_reducible exact Grew.refl _) | (with_reducible assumption) | (with_reducible exact Grew.same_o) | (with_reducible exact Grew.app_o) | (with_reducible refine Grew.ext ?_ _ _) | (with_reducible refine Grew.alloc ?_ _) | ((with_reducible refine Grew.setCell ?_ ?_ _); rotate_left; (focus (dsimp only; first | omega | (simp only [size_ext, World.size_alloc, Array.size_append]; omega)))) | (with_reducible refine Grew.drewN ?_ _) | (with_reducible refine Grew.drew ?_))))).mono ?_); rintro e w1 ⟨rfl, ob, kb, rfl⟩)))
        refine wp_region_R (Grew V) [] [(0,0), (0,1), (0,3), (0,4), (1,2), (1,5), (0,6)] (by kernel_rfl) (by kernel_rfl) (fun _ _ _ _ h _ => h) (by first | exact ⟨_, _, ext_drew⟩ | exact ⟨_, _, drew_ext0⟩ | (show Grew _ _; repeat (first | (with_reducible exact Grew.refl _) | (with_reducible assumption) | (with_reducible exact Grew.same_o) | (with_reducible exact Grew.app_o) | (with_reducible refine Grew.ext ?_ _ _) | (with_reducible refine Grew.alloc ?_ _) | ((with_reducible refine Grew.setCell ?_ ?_ _); rotate_left; (focus (dsimp only; first | omega | (simp only [size_ext, World.size_alloc, Array.size_append]; omega)))) | (with_reducible refine Grew.drewN ?_ _) | (with_reducible refine Grew.drew ?_)))) ?_
        go_wp2_with (first | ((with_reducible refine wpR_id ?_); first | (refine wpR_take (v := ?_) rfl rfl ?_ ?_; rotate_left; (focus (rintro w' ⟨o', n', rfl⟩; go_simp; try with_reducible rfl)); simp only [Act.put, List.setIfInBounds_toArray, List.set_cons_zero, List.set_cons_succ]) | (refine wpR_pure (v := ?_) rfl rfl ?_ ?_; rotate_left; (focus (intro w'; go_simp; try with_reducible rfl)); simp only [Act.put, List.setIfInBounds_toArray, List.set_cons_zero, List.set_cons_succ]) | (refine wpR_takeG (v := ?_) rfl rfl rfl rfl rfl ?_ ?_; rotate_left; (focus (rintro w' ⟨o', n', rfl⟩; go_simp; try with_reducible rfl)); simp only [Act.put, List.setIfInBounds_toArray, List.set_cons_zero, List.set_cons_succ]) | (refine wpR_skip rfl rfl rfl rfl rfl rfl ?_; simp only [Act.put, List.setIfInBounds_toArray, List.set_cons_zero, List.set_cons_succ]) | (refine wpR_skipU rfl rfl rfl rfl rfl ?_; simp only [Act.put, List.setIfInBounds_toArray, List.set_cons_zero, List.set_cons_succ]) | (refine wpR_do rfl rfl (fun K hK => ?_)) | (refine wpR_doG rfl rfl rfl rfl rfl (fun K hK => ?_)) | (refine wpR_last rfl rfl (fun K hK => ?_)) | (refine wpR_nil ?_)) | ((with_reducible refine wpR_go ?_ ?_); (focus (show Grew _ _; repeat (first | (with_reducible exact Grew.refl _) | (with_reducible assumption) | (with_reducible exact Grew.same_o) | (with_reducible exact Grew.app_o) | (with_reducible refine Grew.ext ?_ _ _) | (with_reducible refine Grew.alloc ?_ _) | ((with_reducible refine Grew.setCell ?_ ?_ _); rotate_left; (focus (dsimp only; first | omega | (simp only [size_ext, World.size_alloc, Array.size_append]; omega)))) | (with_reducible refine Grew.drewN ?_ _) | (with_reducible refine Grew.drew ?_))))) | ((with_reducible refine upon_id ?_); refine upon_fop rfl (by assumption) (by assumption) ?_; intro rr nn hr) | (go_at_call 122; ((with_reducible refine (h1 _ (by (show Grew _ _; repeat (first | (with_reducible exact Grew.refl _) | (with_reducible assumption) | (with_reducible exact Grew.same_o) | (with_reducible exact Grew.app_o) | (with_reducible refine Grew.ext ?_ _ _) | (with_reducible refine Grew.alloc ?_ _) | ((with_reducible refine Grew.setCell ?_ ?_ _); rotate_left; (focus (dsimp only; first | omega | (simp only [size_ext, World.size_alloc, Array.size_append]; omega)))) | (with_reducible refine Grew.drewN ?_ _) | (with_reducible refine Grew.drew ?_))))).mono ?_); rintro e w1 ⟨rfl, oc, kc, rfl⟩)) | (go_at_call 122; ((with_reducible refine (h2 _ (by (show Grew _ _; repeat (first | (with_reducible exact Grew.refl _) | (with_reducible assumption) | (with_reducible exact Grew.same_o) | (with_reducible exact Grew.app_o) | (with_reducible refine Grew.ext ?_ _ _) | (with_reducible refine Grew.alloc ?_ _) | ((with_reducible refine Grew.setCell ?_ ?_ _); rotate_left; (focus (dsimp only; first | omega | (simp only [size_ext, World.size_alloc, Array.size_append]; omega)))) | (with_reducible refine Grew.drewN ?_ _) | (with_reducible refine Grew.drew ?_))))).mono ?_); rintro e w1 ⟨rfl, od, kd, rfl⟩)))
        go_ret
        exact ⟨ret_int HQ.out.symm, by (show Grew _ _; repeat (first | (with_reducible exact Grew.refl _) | (with_reducible assumption) | (with_reducible exact Grew.same_o) | (with_reducible exact Grew.app_o) | (with_reducible refine Grew.ext ?_ _ _) | (with_reducible refine Grew.alloc ?_ _) | ((with_reducible refine Grew.setCell ?_ ?_ _); rotate_left; (focus (dsimp only; first | omega | (simp only [size_ext, World.size_alloc, Array.size_append]; omega)))) | (with_reducible refine Grew.drewN ?_ _) | (with_reducible refine Grew.drew ?_)))⟩
end Go.Proofs.Ytcmggfpcbijcjaa
end
section
/-
  Plain: sums and differences of digits.
-/
set_option linter.unusedSimpArgs false
set_option linter.unusedVariables false
namespace Sedge
open Ieee
theorem dv_snoc (m : List Nat) (x : Nat) : dv (m ++ [x]) = dv m + x * 65536 ^ m.length := by
  rw [dv_append]; simp [dv, Nat.mul_comm]
theorem add_step {m : List Nat} {f g : Nat → Nat} {c k S : Nat} (hm : m.length = k) (hS : S = c + f k + g k) (h : dv m + c * 65536 ^ k = ds f k + ds g k) :
    dv (m ++ [S % 65536]) + S / 65536 * 65536 ^ (k + 1) = ds f (k + 1) + ds g (k + 1) := by
  rw [dv_snoc, hm]
  unfold ds
  have hd := Nat.div_add_mod S 65536
  generalize S / 65536 = q at *
  generalize S % 65536 = r at *
  rw [Nat.pow_succ]
  generalize 65536 ^ k = P at *
  have h1 : (65536 * q + r) * P = (c + f k + g k) * P := by rw [hd, hS]
  rw [Nat.add_mul, Nat.add_mul, Nat.add_mul, Nat.mul_assoc] at h1
  rw [Nat.mul_comm P 65536, Nat.mul_left_comm q]
  omega
theorem sub_step0 {m : List Nat} {f g : Nat → Nat} {c k : Nat} (hm : m.length = k) (h : dv m + ds g k = ds f k + c * 65536 ^ k) (hle : g k + c ≤ f k) :
    dv (m ++ [f k - g k - c]) + ds g (k + 1) = ds f (k + 1) + 0 * 65536 ^ (k + 1) := by
  rw [dv_snoc, hm]
  unfold ds
  obtain ⟨d, hd⟩ : ∃ d, f k = g k + c + d := ⟨f k - (g k + c), by omega⟩
  have e : f k - g k - c = d := by omega
  rw [e, hd, Nat.add_mul, Nat.add_mul]
  omega
theorem sub_step1 {m : List Nat} {f g : Nat → Nat} {c k : Nat} (hm : m.length = k) (h : dv m + ds g k = ds f k + c * 65536 ^ k) (hlt : f k < g k + c) (hg : g k < 65536) (hc : c ≤ 1) :
    dv (m ++ [f k + 65536 - g k - c]) + ds g (k + 1) = ds f (k + 1) + 1 * 65536 ^ (k + 1) := by
  rw [dv_snoc, hm]
  unfold ds
  obtain ⟨d, hd⟩ : ∃ d, f k + 65536 = g k + c + d := ⟨f k + 65536 - (g k + c), by omega⟩
  have e : f k + 65536 - g k - c = d := by omega
  rw [e, Nat.pow_succ, Nat.one_mul]
  generalize 65536 ^ k = P at *
  have h1 : (f k + 65536) * P = (g k + c + d) * P := by rw [hd]
  rw [Nat.add_mul, Nat.add_mul, Nat.add_mul] at h1
  rw [Nat.mul_comm P 65536]
  omega
theorem sub_end {m : List Nat} {f g : Nat → Nat} {c n : Nat} (hm : m.length = n) (hD : Dg m) (h : dv m + ds g n = ds f n + c * 65536 ^ n) (hle : ds g n ≤ ds f n) : dv m + ds g n = ds f n := by
  have := dv_lt hD
  rw [hm] at this
  rcases Nat.eq_zero_or_pos c with h0 | h0
  · subst h0; omega
  · have : 1 * 65536 ^ n ≤ c * 65536 ^ n := Nat.mul_le_mul_right _ h0
    omega
end Sedge
end
