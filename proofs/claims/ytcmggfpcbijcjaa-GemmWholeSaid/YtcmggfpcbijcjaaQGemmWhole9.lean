/-
  Texts laid one behind the other (a claim has at most 60 files): Whole4, Dense, RnewC, Whole1, Whole2, WholeP, DenseC, Aw04, Aw11, LawWh0.
-/
import Derived.Deep.CutBlock
import Derived.Deep.DeepCutAuto
import Derived.Test.YtcmggfpcbijcjaaQGemmWhole1
import Derived.Test.YtcmggfpcbijcjaaQGemmWhole2
import Derived.Test.YtcmggfpcbijcjaaQGemmWhole3
import Derived.Test.YtcmggfpcbijcjaaQGemmWhole4
import Derived.Test.YtcmggfpcbijcjaaQGemmWhole5
import Derived.Test.YtcmggfpcbijcjaaQGemmWhole6
import Derived.Test.YtcmggfpcbijcjaaQGemmWhole7
import Derived.Test.YtcmggfpcbijcjaaQGemmWhole8
section
/-
  Contract for GemmWhole: gemm.Product of two dense matrices (87). UNDER WAY.
-/
set_option linter.unusedSimpArgs false
set_option linter.unusedVariables false
open Go Go.RowKit Sedge
namespace Go.Proofs.Ytcmggfpcbijcjaa
set_option maxRecDepth 100000 in
set_option maxHeartbeats 4000000 in
theorem numL_dense {LA : List Nat} {r m : Nat} (hr1 : 1 ≤ r) (eA : LA.length = r * m) : numL ⟨LA, 0, r, m, r⟩ = LA := by
  apply List.ext_getElem?
  intro t
  unfold numL numTo
  simp only [Int.toNat_natCast]
  rw [List.getElem?_map]
  by_cases h : t < r * m
  · rw [List.getElem?_range h, Option.map_some]
    unfold MatM.num
    have e : t % r + t / r * r = t := by rw [Nat.mul_comm]; exact Nat.mod_add_div t r
    have hl : t < LA.length := by omega
    rw [matd_place, e, List.getD_eq_getElem?_getD, List.getElem?_eq_getElem hl]
    rfl
  · have hl : LA.length ≤ t := by omega
    rw [List.getElem?_eq_none (by simpa using Nat.le_of_not_lt h), List.getElem?_eq_none hl]; rfl
set_option maxRecDepth 100000 in
set_option maxHeartbeats 4000000 in
theorem prod_ok (r m c : Nat) (LA LB : List Nat) (hr : r ≤ 64) (hr1 : 1 ≤ r) (hm : m ≤ 64) (hm1 : 1 ≤ m) (hc : c ≤ 64) (hc1 : 1 ≤ c) (ga ca gb cb q : Nat) (w : World) (hA : FW w ga LA) (hB : FW w gb LB) (eA : LA.length = r * m) (eB : LB.length = m * c) (hq : Box w q #[.slice (some ⟨ga, 0, none⟩) (r * m) ca, .int .i64 0, .int .i64 r, .int .i64 m, .int .i64 r, .slice (some ⟨gb, 0, none⟩) (m * c) cb, .int .i64 0, .int .i64 m, .int .i64 c, .int .i64 m]) :
    Calls Try.prog 87 #[.slice (some ⟨q, 0, none⟩) 2 2] w (fun e w' => ∃ k L, e = .returned (.tuple #[.agg #[.slice (some ⟨k, 0, none⟩) (r * c) (r * c), .int .i64 0, .int .i64 r, .int .i64 c, .int .i64 r], .int .i64 0]) ∧ w.heap.size ≤ k ∧ FW w' k L ∧ L.length = r * c ∧ (∀ i j, i < r → j < c → L.getD (i + j * r) 0 = mulTo 4607182418800017408 (MatM.num ⟨LA, 0, r, m, r⟩) (fun k => MatM.num ⟨LB, 0, m, c, m⟩ k j) 0 i m) ∧ ∃ o n, w' = ext w o n) := by
  have hgA : ∀ w', Grew w w' → Calls Try.prog 130 #[.agg #[.slice (some ⟨ga, 0, none⟩) (r * m) ca, .int .i64 0, .int .i64 r, .int .i64 m, .int .i64 r]] w' (fun e w2 => e = .returned (.bool true) ∧ ∃ o n, w2 = ext w' o n) := fun w' g => by
    have h1 : r * m ≤ 64 * 64 := Nat.mul_le_mul hr hm
    have := good_any ⟨LA, 0, r, m, r⟩ (.slice (some ⟨ga, 0, none⟩) (r * m) ca) w' (by have := (hA.grew g).fs (by omega) ca; rw [eA] at this; exact this) (by simp [MatM.wf, I64]; omega); rw [matd_good eA hr1 hm1] at this; exact this
  have hgB : ∀ w', Grew w w' → Calls Try.prog 130 #[.agg #[.slice (some ⟨gb, 0, none⟩) (m * c) cb, .int .i64 0, .int .i64 m, .int .i64 c, .int .i64 m]] w' (fun e w2 => e = .returned (.bool true) ∧ ∃ o n, w2 = ext w' o n) := fun w' g => by
    have h1 : m * c ≤ 64 * 64 := Nat.mul_le_mul hm hc
    have := good_any ⟨LB, 0, m, c, m⟩ (.slice (some ⟨gb, 0, none⟩) (m * c) cb) w' (by have := (hB.grew g).fs (by omega) cb; rw [eB] at this; exact this) (by simp [MatM.wf, I64]; omega); rw [matd_good eB hm1 hc1] at this; exact this
  have hcl : ∀ w', Grew w w' → Calls Try.prog 163 #[.agg #[.slice (some ⟨ga, 0, none⟩) (r * m) ca, .int .i64 0, .int .i64 r, .int .i64 m, .int .i64 r]] w' (fun e w2 => ∃ k, e = .returned (.tuple #[.agg #[.slice (some ⟨k, 0, none⟩) (r * m) (r * m), .int .i64 0, .int .i64 r, .int .i64 m, .int .i64 r], .int .i64 0]) ∧ w'.heap.size ≤ k ∧ FW w2 k LA ∧ ∃ o n, w2 = ext w' o n) := fun w' g => by
    have h1 : r * m ≤ 64 * 64 := Nat.mul_le_mul hr hm
    have := clone_ok ⟨LA, 0, r, m, r⟩ (.slice (some ⟨ga, 0, none⟩) (r * m) ca) r m w' (by have := (hA.grew g).fs (by omega) ca; rw [eA] at this; exact this) (matd_good eA hr1 hm1) (by simp [MatM.wf, I64]; omega) (by show LA.length ≤ _; omega) rfl rfl hr hm
    rw [numL_dense hr1 eA, show max r 1 = r by omega] at this
    exact this
  have HEA := hid eA
  have HEB := hid eB
  clear eA eB
  go_enter Try.func87, Try.ntmps87
  go_upto_region 3 with fail
  refine name_any (fun V hV => ?_)
  obtain ⟨p2, hp2⟩ : ∃ p, p = w.heap.size := ⟨_, rfl⟩
  have gV : Grew w V := by rw [← hV]; (show Grew _ _; (try simp only [← Array.append_assoc]); repeat (first | (with_reducible exact Grew.same_o) | (with_reducible exact Grew.refl _) | (with_reducible assumption) | (with_reducible refine Grew.alloc ?_ _) | (with_reducible refine Grew.app_r ?_) | ((with_reducible refine Grew.setCell ?_ ?_ _); rotate_left; (focus (dsimp only; first | omega | (simp only [size_ext, World.size_alloc, Array.size_append]; omega)))) | (with_reducible refine Grew.ext ?_ _ _) | (with_reducible refine Grew.drewN ?_ _) | (with_reducible refine Grew.drew ?_)))
  have X2 : Box V p2 #[.slice none 0 0, .int .i64 0, .int .i64 0, .int .i64 0, .int .i64 0] := by rw [← hV]; exact Box.new' hp2
  have hqV := hq.grew gV
  have z2 : w.heap.size ≤ p2 := by omega
  simp only [← hp2]
  clear hV hp2
  go_wp2
  go_loopw [19] (fun c wr => ∃ (i : Nat), i ≤ 2 ∧ c = .int .i64 i ∧ Grew V wr) (fun c _ => 2 - (intOf c).toNat)
  case atStart => exact ⟨0, by omega, rfl, Grew.refl _⟩
  case round =>
    obtain ⟨i, hi, rfl, gr⟩ := hrel
    have tq := (hqV.grew gr).cell
    have lq := (hqV.grew gr).lt
    have gwr := Grew.trans gV gr
    have gwr' := gV
    have hgA2 := fun w' g => hgA w' (Grew.trans gwr g)
    have hgB2 := fun w' g => hgB w' (Grew.trans gwr g)
    rcases (show i = 0 ∨ i = 1 ∨ i = 2 by omega) with rfl | rfl | rfl
    · go_wp2_with (first | (go_at_call 130; ((with_reducible refine (hgA2 _ (by (show Grew _ _; (try simp only [← Array.append_assoc]); repeat (first | (with_reducible exact Grew.same_o) | (with_reducible exact Grew.refl _) | (with_reducible assumption) | (with_reducible refine Grew.alloc ?_ _) | (with_reducible refine Grew.app_r ?_) | ((with_reducible refine Grew.setCell ?_ ?_ _); rotate_left; (focus (dsimp only; first | omega | (simp only [size_ext, World.size_alloc, Array.size_append]; omega)))) | (with_reducible refine Grew.ext ?_ _ _) | (with_reducible refine Grew.drewN ?_ _) | (with_reducible refine Grew.drew ?_))))).mono ?_); rintro e w1 ⟨rfl, o1, n1, rfl⟩)))
      go_roundw
      case rel => exact ⟨1, by omega, by go_num, Grew.trans gr (by (show Grew _ _; (try simp only [← Array.append_assoc]); repeat (first | (with_reducible exact Grew.same_o) | (with_reducible exact Grew.refl _) | (with_reducible assumption) | (with_reducible refine Grew.alloc ?_ _) | (with_reducible refine Grew.app_r ?_) | ((with_reducible refine Grew.setCell ?_ ?_ _); rotate_left; (focus (dsimp only; first | omega | (simp only [size_ext, World.size_alloc, Array.size_append]; omega)))) | (with_reducible refine Grew.ext ?_ _ _) | (with_reducible refine Grew.drewN ?_ _) | (with_reducible refine Grew.drew ?_))))⟩
      case measure => simp [intOf]
    · go_wp2_with (first | (go_at_call 130; ((with_reducible refine (hgB2 _ (by (show Grew _ _; (try simp only [← Array.append_assoc]); repeat (first | (with_reducible exact Grew.same_o) | (with_reducible exact Grew.refl _) | (with_reducible assumption) | (with_reducible refine Grew.alloc ?_ _) | (with_reducible refine Grew.app_r ?_) | ((with_reducible refine Grew.setCell ?_ ?_ _); rotate_left; (focus (dsimp only; first | omega | (simp only [size_ext, World.size_alloc, Array.size_append]; omega)))) | (with_reducible refine Grew.ext ?_ _ _) | (with_reducible refine Grew.drewN ?_ _) | (with_reducible refine Grew.drew ?_))))).mono ?_); rintro e w1 ⟨rfl, o1, n1, rfl⟩)))
      go_roundw
      case rel => exact ⟨2, by omega, by go_num, Grew.trans gr (by (show Grew _ _; (try simp only [← Array.append_assoc]); repeat (first | (with_reducible exact Grew.same_o) | (with_reducible exact Grew.refl _) | (with_reducible assumption) | (with_reducible refine Grew.alloc ?_ _) | (with_reducible refine Grew.app_r ?_) | ((with_reducible refine Grew.setCell ?_ ?_ _); rotate_left; (focus (dsimp only; first | omega | (simp only [size_ext, World.size_alloc, Array.size_append]; omega)))) | (with_reducible refine Grew.ext ?_ _ _) | (with_reducible refine Grew.drewN ?_ _) | (with_reducible refine Grew.drew ?_))))⟩
      case measure => simp [intOf]
    · have d1 : decide ((64 : Int) < (r : Int)) = false := by simp; omega
      have d2 : decide ((64 : Int) < (m : Int)) = false := by simp; omega
      have d3 : decide ((64 : Int) < (c : Int)) = false := by simp; omega
      go_wp2
      go_loopw [30] (fun c wr => ∃ (i : Nat), i ≤ 2 ∧ c = .int .i64 i ∧ Grew V wr) (fun c _ => 2 - (intOf c).toNat)
      case atStart => exact ⟨0, by omega, rfl, gr⟩
      case round =>
        obtain ⟨i, hi, rfl, gx⟩ := hrel
        have tq := (hqV.grew gx).cell
        have lq := (hqV.grew gx).lt
        rcases (show i = 0 ∨ i = 1 ∨ i = 2 by omega) with rfl | rfl | rfl
        · go_upto_region 12 with fail
          refine name_any (fun Y hY => ?_)
          obtain ⟨p7, hp7⟩ : ∃ p, p = wr.heap.size := ⟨_, rfl⟩
          have gY : Grew wr Y := by rw [← hY]; (show Grew _ _; (try simp only [← Array.append_assoc]); repeat (first | (with_reducible exact Grew.same_o) | (with_reducible exact Grew.refl _) | (with_reducible assumption) | (with_reducible refine Grew.alloc ?_ _) | (with_reducible refine Grew.app_r ?_) | ((with_reducible refine Grew.setCell ?_ ?_ _); rotate_left; (focus (dsimp only; first | omega | (simp only [size_ext, World.size_alloc, Array.size_append]; omega)))) | (with_reducible refine Grew.ext ?_ _ _) | (with_reducible refine Grew.drewN ?_ _) | (with_reducible refine Grew.drew ?_)))
          have Z7 : Box Y p7 #[.slice (some ⟨ga, 0, none⟩) (r * m) ca, .int .i64 0, .int .i64 r, .int .i64 m, .int .i64 r] := by rw [← hY]; exact Box.new' hp7
          have tq := (hqV.grew (Grew.trans gx gY)).cell
          have lq := (hqV.grew (Grew.trans gx gY)).lt
          have t7 := Z7.cell
          have l7 := Z7.lt
          simp only [← hp7]
          clear hY hp7
          refine wp_region_R (Grew Y) [] [(0,0), (0,1), (0,2), (0,3), (0,4), (0,5), (0,6), (0,7), (0,8), (0,9), (0,10), (0,11), (0,12), (0,13), (0,14), (0,15), (0,16), (0,17), (0,18), (0,19), (0,20), (0,21), (0,22)] (by kernel_rfl) (by kernel_rfl) (fun _ _ _ _ h _ => h) (by first | exact ⟨_, _, ext_drew⟩ | exact ⟨_, _, drew_ext0⟩ | (show Grew _ _; repeat (first | (with_reducible exact Grew.refl _) | (with_reducible assumption) | (with_reducible exact Grew.same_o) | (with_reducible exact Grew.app_o) | (with_reducible refine Grew.ext ?_ _ _) | (with_reducible refine Grew.alloc ?_ _) | ((with_reducible refine Grew.setCell ?_ ?_ _); rotate_left; (focus (dsimp only; first | omega | (simp only [size_ext, World.size_alloc, Array.size_append]; omega)))) | (with_reducible refine Grew.drewN ?_ _) | (with_reducible refine Grew.drew ?_)))) ?_
          go_wp2_with (first | ((with_reducible refine wpR_id ?_); first | (refine wpR_take (v := ?_) rfl rfl ?_ ?_; rotate_left; (focus (rintro w' ⟨o', n', rfl⟩; go_simp; try with_reducible rfl)); simp only [Act.put, List.setIfInBounds_toArray, List.set_cons_zero, List.set_cons_succ]) | (refine wpR_pure (v := ?_) rfl rfl ?_ ?_; rotate_left; (focus (intro w'; go_simp; try with_reducible rfl)); simp only [Act.put, List.setIfInBounds_toArray, List.set_cons_zero, List.set_cons_succ]) | (refine wpR_takeG (v := ?_) rfl rfl rfl rfl rfl ?_ ?_; rotate_left; (focus (rintro w' ⟨o', n', rfl⟩; go_simp; try with_reducible rfl)); simp only [Act.put, List.setIfInBounds_toArray, List.set_cons_zero, List.set_cons_succ]) | (refine wpR_skip rfl rfl rfl rfl rfl rfl ?_; simp only [Act.put, List.setIfInBounds_toArray, List.set_cons_zero, List.set_cons_succ]) | (refine wpR_skipU rfl rfl rfl rfl rfl ?_; simp only [Act.put, List.setIfInBounds_toArray, List.set_cons_zero, List.set_cons_succ]) | (refine wpR_do rfl rfl (fun K hK => ?_)) | (refine wpR_doG rfl rfl rfl rfl rfl (fun K hK => ?_)) | (refine wpR_last rfl rfl (fun K hK => ?_)) | (refine wpR_nil ?_)) | ((with_reducible refine wpR_go ?_ ?_); (focus (show Grew _ _; repeat (first | (with_reducible exact Grew.refl _) | (with_reducible assumption) | (with_reducible exact Grew.same_o) | (with_reducible exact Grew.app_o) | (with_reducible refine Grew.ext ?_ _ _) | (with_reducible refine Grew.alloc ?_ _) | ((with_reducible refine Grew.setCell ?_ ?_ _); rotate_left; (focus (dsimp only; first | omega | (simp only [size_ext, World.size_alloc, Array.size_append]; omega)))) | (with_reducible refine Grew.drewN ?_ _) | (with_reducible refine Grew.drew ?_))))) | ((with_reducible refine upon_id ?_); refine upon_fop rfl (by assumption) (by assumption) ?_; intro rr nn hr))
          go_roundw
          case rel => exact ⟨1, by omega, by go_num, Grew.trans gx (Grew.trans gY (by (show Grew _ _; (try simp only [← Array.append_assoc]); repeat (first | (with_reducible exact Grew.same_o) | (with_reducible exact Grew.refl _) | (with_reducible assumption) | (with_reducible refine Grew.alloc ?_ _) | (with_reducible refine Grew.app_r ?_) | ((with_reducible refine Grew.setCell ?_ ?_ _); rotate_left; (focus (dsimp only; first | omega | (simp only [size_ext, World.size_alloc, Array.size_append]; omega)))) | (with_reducible refine Grew.ext ?_ _ _) | (with_reducible refine Grew.drewN ?_ _) | (with_reducible refine Grew.drew ?_)))))⟩
          case measure => simp [intOf]
        · go_upto_region 12 with fail
          refine name_any (fun Y hY => ?_)
          obtain ⟨p7, hp7⟩ : ∃ p, p = wr.heap.size := ⟨_, rfl⟩
          have gY : Grew wr Y := by rw [← hY]; (show Grew _ _; (try simp only [← Array.append_assoc]); repeat (first | (with_reducible exact Grew.same_o) | (with_reducible exact Grew.refl _) | (with_reducible assumption) | (with_reducible refine Grew.alloc ?_ _) | (with_reducible refine Grew.app_r ?_) | ((with_reducible refine Grew.setCell ?_ ?_ _); rotate_left; (focus (dsimp only; first | omega | (simp only [size_ext, World.size_alloc, Array.size_append]; omega)))) | (with_reducible refine Grew.ext ?_ _ _) | (with_reducible refine Grew.drewN ?_ _) | (with_reducible refine Grew.drew ?_)))
          have Z7 : Box Y p7 #[.slice (some ⟨gb, 0, none⟩) (m * c) cb, .int .i64 0, .int .i64 m, .int .i64 c, .int .i64 m] := by rw [← hY]; exact Box.new' hp7
          have tq := (hqV.grew (Grew.trans gx gY)).cell
          have lq := (hqV.grew (Grew.trans gx gY)).lt
          have t7 := Z7.cell
          have l7 := Z7.lt
          simp only [← hp7]
          clear hY hp7
          have hz1 : IntKind.i64.wrap 0 = 0 := by decide
          refine wp_region_R (Grew Y) [] [(0,0), (0,1), (0,2), (0,3), (0,4), (0,5), (0,6), (0,7), (0,8), (0,9), (0,10), (0,11), (0,12), (0,13), (0,14), (0,15), (0,16), (0,17), (0,18), (0,19), (0,20), (0,21), (0,22)] (by kernel_rfl) (by kernel_rfl) (fun _ _ _ _ h _ => h) (by first | exact ⟨_, _, ext_drew⟩ | exact ⟨_, _, drew_ext0⟩ | (show Grew _ _; repeat (first | (with_reducible exact Grew.refl _) | (with_reducible assumption) | (with_reducible exact Grew.same_o) | (with_reducible exact Grew.app_o) | (with_reducible refine Grew.ext ?_ _ _) | (with_reducible refine Grew.alloc ?_ _) | ((with_reducible refine Grew.setCell ?_ ?_ _); rotate_left; (focus (dsimp only; first | omega | (simp only [size_ext, World.size_alloc, Array.size_append]; omega)))) | (with_reducible refine Grew.drewN ?_ _) | (with_reducible refine Grew.drew ?_)))) ?_
          go_wp2_with (first | ((with_reducible refine wpR_id ?_); first | (refine wpR_take (v := ?_) rfl rfl ?_ ?_; rotate_left; (focus (rintro w' ⟨o', n', rfl⟩; go_simp; try with_reducible rfl)); simp only [Act.put, List.setIfInBounds_toArray, List.set_cons_zero, List.set_cons_succ]) | (refine wpR_pure (v := ?_) rfl rfl ?_ ?_; rotate_left; (focus (intro w'; go_simp; try with_reducible rfl)); simp only [Act.put, List.setIfInBounds_toArray, List.set_cons_zero, List.set_cons_succ]) | (refine wpR_takeG (v := ?_) rfl rfl rfl rfl rfl ?_ ?_; rotate_left; (focus (rintro w' ⟨o', n', rfl⟩; go_simp; try with_reducible rfl)); simp only [Act.put, List.setIfInBounds_toArray, List.set_cons_zero, List.set_cons_succ]) | (refine wpR_skip rfl rfl rfl rfl rfl rfl ?_; simp only [Act.put, List.setIfInBounds_toArray, List.set_cons_zero, List.set_cons_succ]) | (refine wpR_skipU rfl rfl rfl rfl rfl ?_; simp only [Act.put, List.setIfInBounds_toArray, List.set_cons_zero, List.set_cons_succ]) | (refine wpR_do rfl rfl (fun K hK => ?_)) | (refine wpR_doG rfl rfl rfl rfl rfl (fun K hK => ?_)) | (refine wpR_last rfl rfl (fun K hK => ?_)) | (refine wpR_nil ?_)) | ((with_reducible refine wpR_go ?_ ?_); (focus (show Grew _ _; repeat (first | (with_reducible exact Grew.refl _) | (with_reducible assumption) | (with_reducible exact Grew.same_o) | (with_reducible exact Grew.app_o) | (with_reducible refine Grew.ext ?_ _ _) | (with_reducible refine Grew.alloc ?_ _) | ((with_reducible refine Grew.setCell ?_ ?_ _); rotate_left; (focus (dsimp only; first | omega | (simp only [size_ext, World.size_alloc, Array.size_append]; omega)))) | (with_reducible refine Grew.drewN ?_ _) | (with_reducible refine Grew.drew ?_))))) | ((with_reducible refine upon_id ?_); refine upon_fop rfl (by assumption) (by assumption) ?_; intro rr nn hr))
          go_roundw
          case rel => exact ⟨2, by omega, by go_num, Grew.trans gx (Grew.trans gY (by (show Grew _ _; (try simp only [← Array.append_assoc]); repeat (first | (with_reducible exact Grew.same_o) | (with_reducible exact Grew.refl _) | (with_reducible assumption) | (with_reducible refine Grew.alloc ?_ _) | (with_reducible refine Grew.app_r ?_) | ((with_reducible refine Grew.setCell ?_ ?_ _); rotate_left; (focus (dsimp only; first | omega | (simp only [size_ext, World.size_alloc, Array.size_append]; omega)))) | (with_reducible refine Grew.ext ?_ _ _) | (with_reducible refine Grew.drewN ?_ _) | (with_reducible refine Grew.drew ?_)))))⟩
          case measure => simp [intOf]
        · have gwx := Grew.trans gwr' gx
          go_upto_region 16 with (first | (go_at_call 163; ((with_reducible refine (hcl _ gwx).mono ?_); rintro e w1 ⟨ka, rfl, hka, FKa, o3, n3, rfl⟩)))
          refine name_any (fun U hU => ?_)
          obtain ⟨p8, hp8⟩ : ∃ p, p = wr.heap.size + o3.size := ⟨_, rfl⟩
          have gU : Grew wr U := by rw [← hU]; (show Grew _ _; (try simp only [← Array.append_assoc]); repeat (first | (with_reducible exact Grew.same_o) | (with_reducible exact Grew.refl _) | (with_reducible assumption) | (with_reducible refine Grew.alloc ?_ _) | (with_reducible refine Grew.app_r ?_) | ((with_reducible refine Grew.setCell ?_ ?_ _); rotate_left; (focus (dsimp only; first | omega | (simp only [size_ext, World.size_alloc, Array.size_append]; omega)))) | (with_reducible refine Grew.ext ?_ _ _) | (with_reducible refine Grew.drewN ?_ _) | (with_reducible refine Grew.drew ?_)))
          have X8 : Box U p8 #[.slice (some ⟨ka, 0, none⟩) (r * m) (r * m), .int .i64 0, .int .i64 r, .int .i64 m, .int .i64 r] := by rw [← hU]; exact Box.new' (by rw [hp8]; simp only [size_ext])
          have FAU : FW U ka LA := by rw [← hU]; exact FKa.grew (by (show Grew _ _; (try simp only [← Array.append_assoc]); repeat (first | (with_reducible exact Grew.same_o) | (with_reducible exact Grew.refl _) | (with_reducible assumption) | (with_reducible refine Grew.alloc ?_ _) | (with_reducible refine Grew.app_r ?_) | ((with_reducible refine Grew.setCell ?_ ?_ _); rotate_left; (focus (dsimp only; first | omega | (simp only [size_ext, World.size_alloc, Array.size_append]; omega)))) | (with_reducible refine Grew.ext ?_ _ _) | (with_reducible refine Grew.drewN ?_ _) | (with_reducible refine Grew.drew ?_))))
          have lka := FKa.lt
          simp only [size_ext] at lka
          have gVU := Grew.trans gx gU
          have XU2 := X2.grew gVU
          have hqU := (hqV.grew gVU)
          have gwU := Grew.trans gV gVU
          have l2 := X2.lt
          have zV := gVU.below.size
          have lka2 := FAU.lt
          have lq := hqV.lt
          have zx := gx.below.size
          have n82 : p8 ≠ p2 := by omega
          have n8q : p8 ≠ q := by omega
          have n8k : p8 ≠ ka := by omega
          have n2q : p2 ≠ q := by have := hq.lt; omega
          have z8 : w.heap.size ≤ p8 := by omega
          have FBU := hB.grew gwU
          have lgb := hB.lt
          have n8b : p8 ≠ gb := by omega
          simp only [← hp8]
          clear hU hp8 FKa hka lka tq
          go_wp2
          go_loopw [70] (fun c1 wy => ∃ i : Nat, i ≤ 1 ∧ c1 = .int .i64 i ∧ Grew w wy ∧ (i = 0 → wy = U) ∧ (i = 1 → ∃ k L, Box wy p8 #[.slice (some ⟨k, 0, none⟩) (r * c) (r * c), .int .i64 0, .int .i64 r, .int .i64 c, .int .i64 r] ∧ w.heap.size ≤ k ∧ k ≠ p2 ∧ k ≠ p8 ∧ FW wy k L ∧ L.length = r * c ∧ (∀ i j, i < r → j < c → L.getD (i + j * r) 0 = mulTo 4607182418800017408 (MatM.num ⟨LA, 0, r, m, r⟩) (fun k => MatM.num ⟨LB, 0, m, c, m⟩ k j) 0 i m)) ∧ Box wy p2 #[.slice none 0 0, .int .i64 0, .int .i64 0, .int .i64 0, .int .i64 0] ∧ Box wy q #[.slice (some ⟨ga, 0, none⟩) (r * m) ca, .int .i64 0, .int .i64 r, .int .i64 m, .int .i64 r, .slice (some ⟨gb, 0, none⟩) (m * c) cb, .int .i64 0, .int .i64 m, .int .i64 c, .int .i64 m]) (fun c1 _ => 1 - (intOf c1).toNat)
          case atStart => exact ⟨0, by omega, rfl, gwU, fun _ => rfl, fun h => by omega, XU2, hqU⟩
          case round =>
            obtain ⟨i, hi, rfl, gy, h0, h1, Y2, Yq⟩ := hrel
            rcases (show i = 0 ∨ i = 1 by omega) with rfl | rfl
            · obtain rfl := h0 rfl
              clear h0 h1
              have t8 := X8.cell
              have l8 := X8.lt
              have tq := Yq.cell
              have lq := Yq.lt
              go_upto_region 20 with (first | (go_at_call 69; ((with_reducible refine (dense0k_any r c _ (by omega) (by omega) hr1).mono ?_); rintro e w1 ⟨kz, rfl, hkz, FZ, o4, n4, rfl⟩)))
              refine name_any (fun T hT => ?_)
              obtain ⟨p11, hp11⟩ : ∃ p, p = wr.heap.size := ⟨_, rfl⟩
              obtain ⟨p12, hp12⟩ : ∃ p, p = wr.heap.size + 1 + o4.size := ⟨_, rfl⟩
              have gT : Grew wr T := by rw [← hT]; (show Grew _ _; (try simp only [← Array.append_assoc]); repeat (first | (with_reducible exact Grew.same_o) | (with_reducible exact Grew.refl _) | (with_reducible assumption) | (with_reducible refine Grew.alloc ?_ _) | (with_reducible refine Grew.app_r ?_) | ((with_reducible refine Grew.setCell ?_ ?_ _); rotate_left; (focus (dsimp only; first | omega | (simp only [size_ext, World.size_alloc, Array.size_append]; omega)))) | (with_reducible refine Grew.ext ?_ _ _) | (with_reducible refine Grew.drewN ?_ _) | (with_reducible refine Grew.drew ?_)))
              have Z11 : Box T p11 #[.slice (some ⟨gb, 0, none⟩) (m * c) cb, .int .i64 0, .int .i64 m, .int .i64 c, .int .i64 m] := by rw [← hT]; exact (Box.new' hp11).grew (by (show Grew _ _; (try simp only [← Array.append_assoc]); repeat (first | (with_reducible exact Grew.same_o) | (with_reducible exact Grew.refl _) | (with_reducible assumption) | (with_reducible refine Grew.alloc ?_ _) | (with_reducible refine Grew.app_r ?_) | ((with_reducible refine Grew.setCell ?_ ?_ _); rotate_left; (focus (dsimp only; first | omega | (simp only [size_ext, World.size_alloc, Array.size_append]; omega)))) | (with_reducible refine Grew.ext ?_ _ _) | (with_reducible refine Grew.drewN ?_ _) | (with_reducible refine Grew.drew ?_))))
              have Z12 : Box T p12 #[.slice (some ⟨kz, 0, none⟩) (r * c) (r * c), .int .i64 0, .int .i64 r, .int .i64 c, .int .i64 r] := by rw [← hT]; exact Box.new' (by rw [hp12]; simp only [size_ext, World.size_alloc])
              have Z8 := X8.grew gT
              have Z2 := Y2.grew gT
              have Zq := Yq.grew gT
              have FAT := FAU.grew gT
              have gwT := Grew.trans gy gT
              have FBT := hB.grew gwT
              have FZT : FW T kz (List.replicate (r * c) 0) := by rw [← hT]; exact FZ.grew (by (show Grew _ _; (try simp only [← Array.append_assoc]); repeat (first | (with_reducible exact Grew.same_o) | (with_reducible exact Grew.refl _) | (with_reducible assumption) | (with_reducible refine Grew.alloc ?_ _) | (with_reducible refine Grew.app_r ?_) | ((with_reducible refine Grew.setCell ?_ ?_ _); rotate_left; (focus (dsimp only; first | omega | (simp only [size_ext, World.size_alloc, Array.size_append]; omega)))) | (with_reducible refine Grew.ext ?_ _ _) | (with_reducible refine Grew.drewN ?_ _) | (with_reducible refine Grew.drew ?_))))
              have lkz := FZ.lt
              simp only [size_ext, World.size_alloc] at lkz hkz
              have zwr := gy.below.size
              have ll2 := Y2.lt
              have nz11 : p11 ≠ kz := by omega
              have nz12 : p12 ≠ kz := by omega
              have nz8 : p8 ≠ kz := by omega
              have nz2 : p2 ≠ kz := by omega
              have nzq : q ≠ kz := by omega
              have nza : kz ≠ ka := by omega
              have nzb : kz ≠ gb := by omega
              have n812 : p8 ≠ p12 := by omega
              have zkz : w.heap.size ≤ kz := by omega
              have t8 := Z8.cell
              have l8 := Z8.lt
              have t11 := Z11.cell
              have l11 := Z11.lt
              have t12 := Z12.cell
              have l12 := Z12.lt
              simp only [← hp12]
              simp only [← hp11]
              clear hT hp11 hp12 FZ lkz hkz X8 Y2 Yq FAU FBU tq lq gT
              have hone : IsF 4607182418800017408 4607182418800017408 := by decide +kernel
              have hT := gemm_tn 4607182418800017408 4607182418800017408 r m c LA LB (List.replicate (r * c) 0) hr hr1 hm hm1 hc hc1 ka (r * m) gb cb kz (r * c) T hone FAT FBT FZT HEA.out HEB.out (by simp) nza nzb
              go_upto_region 21 with (first | (go_at_call 75; ((with_reducible refine (hT).mono ?_); rintro e w1 ⟨rfl, hb, LZ, FLZ, eLZ, hLZ⟩)))
              have V8 := Box.but2 Z8 hb (by simp; omega)
              have V2 := Box.but2 Z2 hb (by simp; omega)
              have Vq := Box.but2 Zq hb (by simp; omega)
              have V12 := Box.but2 Z12 hb (by simp; omega)
              have g1 : Grew w w1 := hb.grew0 gwT (by intro k hk; simp at hk; omega)
              have t8 := V8.cell
              have f8 := V8.frozen
              have l8 := V8.lt
              have t12 := V12.cell
              have l12 := V12.lt
              clear Z8 Z2 Zq Z12 Z11 t11 l11 hT
              go_wp2
              go_roundw
              case rel =>
                have e5 := V8.set5 rfl (.slice (some ⟨kz, 0, none⟩) (r * c) (r * c)) (.int .i64 0) (.int .i64 r) (.int .i64 c) (.int .i64 r)
                rw [e5]
                exact ⟨1, Nat.le_refl _, by go_num, g1.upd z8 _, fun h => by omega, fun _ => ⟨kz, LZ, V8.upd_self _, zkz, fun e => nz2 e.symm, fun e => nz8 e.symm, FLZ.upd_ne (fun e => nz8 e.symm) _, eLZ, hLZ⟩, V2.upd_ne (fun e => n82 e.symm) _, Vq.upd_ne (fun e => n8q e.symm) _⟩
              case measure => simp [intOf]
            · obtain ⟨kz, LZ, V8, zkz, nz2, nz8, FLZ, eLZ, hLZ⟩ := h1 rfl
              have t8 := V8.cell
              have l8 := V8.lt
              have t2 := Y2.cell
              have f2 := Y2.frozen
              have l2 := Y2.lt
              clear h0 h1 X8 FAU FBU hqU XU2 gwU
              go_wp2
              refine bodyPost_ret (v := .tuple #[.agg #[.slice (some ⟨kz, 0, none⟩) (r * c) (r * c), .int .i64 0, .int .i64 r, .int .i64 c, .int .i64 r], .int .i64 0]) (by simp [results, Try.results87, go_sem, *]) rfl ?_
              have e5 := Y2.set5 rfl (.slice (some ⟨kz, 0, none⟩) (r * c) (r * c)) (.int .i64 0) (.int .i64 r) (.int .i64 c) (.int .i64 r)
              rw [e5]
              exact ⟨kz, LZ, rfl, zkz, FLZ.upd_ne nz2 _, eLZ, hLZ, gy.upd z2 _⟩
end Go.Proofs.Ytcmggfpcbijcjaa
end
section
/-
  Contract: view.Dense with its numbers written out; the example of layer 4.
-/
set_option linter.unusedSimpArgs false
set_option linter.unusedVariables false
open Go Go.RowKit Sedge
namespace Go.Proofs.Ytcmggfpcbijcjaa
/-- The list that Dense makes. -/
def denseTo (r c : Nat) (l : List Nat) (k : Nat) : List Nat := writes (List.replicate (r * c) 0) (fun k => k / c + k % c * r) (fun k => l.getD k 0) k
def denseL (r c : Nat) (l : List Nat) : List Nat := denseTo r c l (min l.length (r * c))
set_option maxRecDepth 100000 in
set_option maxHeartbeats 1000000 in
/-- view.Dense, of sizes within 64. -/
theorem dense_any (r c : Nat) (aL : Option Addr) (ls : List Nat) (w : World) (hL : FS w (.slice aL ls.length ls.length) ls) (hr : r ≤ 64) (hc : c ≤ 64) (hr1 : 1 ≤ r) (hc1 : 1 ≤ c) (hlen : ls.length = r * c) :
   Calls Try.prog 69 #[.int .i64 r, .int .i64 c, .slice aL ls.length ls.length] w (fun e w' => ∃ v, e = .returned (.agg #[v, .int .i64 0, .int .i64 r, .int .i64 c, .int .i64 r]) ∧ WS w' w.heap.size v (denseL r c ls) ∧ ∃ o n, w' = ext w o n) := by
  have hm : r * c ≤ 64 * 64 := Nat.mul_le_mul hr hc
  have h2 : IntKind.i64.wrap ((r : Int) * c) = (r : Int) * c := IntWalk.i64_in _ (by rw [← Int.natCast_mul]; omega)
  have hlL := hL.len
  have d1 : decide ((r : Int) < 0) = false := by simp
  have d2 : decide ((c : Int) < 0) = false := by simp
  have d3 : decide ((64 : Int) < (r : Int)) = false := by simp; omega
  have d4 : decide ((64 : Int) < (c : Int)) = false := by simp; omega
  have d5 : (ls.length : Int) = (r : Int) * c := by rw [hlen, Int.natCast_mul]
  have d6 : decide ((1 : Int) ≤ (r : Int)) = true := by simp; omega
  go_enter Try.func69, Try.ntmps69
  refine seq_stop ?_
  go_wp2
  refine stop_go (fun W hW => ?_)
  have s1 : w.heap.size < W.heap.size := by rw [hW]; simp only [World.size_alloc]; omega
  have b1 : ∀ i, W.cell? ⟨w.heap.size, i, none⟩ = (#[.slice none 0 0, .int .i64 0, .int .i64 0, .int .i64 0, .int .i64 0] : Array Value)[i]? := by intro i; rw [hW]; go_simp
  have f1 : ∀ i, W.frozen? ⟨w.heap.size, i, none⟩ = false := by intro i; rw [hW]; go_simp
  have g0 : Grew w W := by rw [hW]; exact (Grew.refl _).alloc _
  clear hW
  have hLW : FS W (.slice aL ls.length ls.length) ls := hL.grew g0
  go_wp2_with (at_make; refine make_f (L := (r : Int) * (c : Int)) finfo (Grew.refl W) _ _ rfl rfl (r * c) (Int.natCast_mul r c).symm rfl rfl (by omega) ?_; intro oo nn k hk ho; have hF := ho.made)
  refine name_any (fun V hV => ?_)
  have gV : Grew W V := by rw [← hV]; (show Grew _ _; repeat (first | (with_reducible exact Grew.refl _) | (with_reducible assumption) | (with_reducible exact Grew.same_o) | (with_reducible exact Grew.app_o) | (with_reducible refine Grew.ext ?_ _ _) | (with_reducible refine Grew.alloc ?_ _) | ((with_reducible refine Grew.setCell ?_ ?_ _); rotate_left; (focus (dsimp only; first | omega | (simp only [size_ext, World.size_alloc, Array.size_append]; omega)))) | (with_reducible refine Grew.drewN ?_ _) | (with_reducible refine Grew.drew ?_)))
  have sV := gV.below.size
  have k1 : w.heap.size < V.heap.size := by omega
  have k3 : W.heap.size + oo.size < V.heap.size := by rw [← hV]; simp only [World.size_alloc, size_ext]; omega
  have c1 : ∀ i, V.cell? ⟨w.heap.size, i, none⟩ = (#[.slice none 0 0, .int .i64 0, .int .i64 0, .int .i64 0, .int .i64 0] : Array Value)[i]? := fun i => (gV.cell s1).trans (b1 i)
  have z1 : ∀ i, V.frozen? ⟨w.heap.size, i, none⟩ = false := fun i => (gV.frozen s1).trans (f1 i)
  have c3 : ∀ i, V.cell? ⟨W.heap.size + oo.size, i, none⟩ = (#[.slice (some ⟨k, 0, none⟩) (r * c) (r * c), .int .i64 0, .int .i64 r, .int .i64 c, .int .i64 r] : Array Value)[i]? := by subst hV; intro i; go_simp
  have hFV : FW V k (List.replicate (r * c) 0) := by rw [← hV]; (repeat (first | (with_reducible assumption) | ((with_reducible refine FW.ext_set ?_ ?_ ?_ _); rotate_left; (focus (simp only [size_setCell', World.size_alloc, size_ext, size_upd]; omega)); (focus (dsimp only; omega))) | ((with_reducible refine FW.setCell_ne ?_ ?_ _); rotate_left; (focus (dsimp only; omega))) | (with_reducible refine FW.ext ?_ _ _) | (with_reducible refine FW.alloc ?_ _)))
  have hLV : FS V (.slice aL ls.length ls.length) ls := hLW.grew gV
  have gl := hFV.lt
  have q1 : w.heap.size ≠ k := by omega
  have q3 : W.heap.size + oo.size ≠ k := by have := hF.lt; simp only [size_ext] at this; omega
  have HL := hid hlen
  clear hV b1 f1 hL ho
  go_loopw [43] (fun s wr => ∃ (i : Nat) (cs : Array Value) (o : Array Obj) (n : Nat), i ≤ r * c ∧ s = .int .i64 i ∧ wr = ext (upd V k cs) o n ∧ CF cs (denseTo r c ls i)) (fun s _ => r * c - (intOf s).toNat)
  case atStart =>
    obtain ⟨cs, h1, h2⟩ := hFV.self
    exact ⟨0, cs, #[], _, Nat.zero_le _, rfl, by rw [h1]; exact ext_zero.symm, h2⟩
  case round =>
    obtain ⟨i, cs, o2, n2, hi, rfl, hwr, hcs⟩ := hrel
    subst hwr
    by_cases hlt : i < r * c
    · have e1 : i / c < r := by rw [Nat.div_lt_iff_lt_mul (by omega)]; exact hlt
      have e2 : i % c < c := Nat.mod_lt _ (by omega)
      have e3 : i % c * r + r ≤ c * r := by have := Nat.mul_le_mul_right r e2; rw [Nat.succ_mul] at this; exact this
      have e4 : c * r = r * c := Nat.mul_comm c r
      obtain ⟨p, hp⟩ : ∃ p : Nat, p = i / c := ⟨_, rfl⟩
      obtain ⟨q, hq⟩ : ∃ q : Nat, q = i % c := ⟨_, rfl⟩
      rw [← hp] at e1
      rw [← hq] at e2 e3
      have hq1 : (i : Int).tdiv c = (p : Int) := by rw [hp]; rfl
      have hq2 : (i : Int).tmod c = (q : Int) := by rw [hq]; rfl
      have hq3 : (i : Int) / c = (p : Int) := by rw [hp]; rfl
      have hq4 : (i : Int) % c = (q : Int) := by rw [hq]; rfl
      have m0 : (q : Int) * r = ((q * r : Nat) : Int) := (Int.natCast_mul q r).symm
      have w1 : IntKind.i64.wrap ((q : Int) * r) = (q : Int) * r := IntWalk.i64_in _ (by omega)
      have w2 : IntKind.i64.wrap ((p : Int) + (q : Int) * r) = (p : Int) + (q : Int) * r := IntWalk.i64_in _ (by omega)
      have n0 : ((p : Int) + (q : Int) * r).toNat = p + q * r := by omega
      have n1 : 0 ≤ (p : Int) + (q : Int) * r := by omega
      have n3 : (p : Int) + (q : Int) * r < ((r * c : Nat) : Int) := by omega
      have n2' : (c : Int) ≠ 0 := by omega
      have n6 : (p : Int) + (q : Int) * r < (r : Int) * c := by rw [← Int.natCast_mul r c]; exact n3
      have n8 : p + q * r < r * c := by omega
      have n5 : ¬ c = 0 := by omega
      have w0 : IntKind.i64.wrap (p : Int) = p := IntWalk.i64_in _ (by omega)
      have w3 : IntKind.i64.wrap (q : Int) = q := IntWalk.i64_in _ (by omega)
      have n4 : ((c : Int) == 0) = false := by simp; omega
      have fz : ∀ i, V.frozen? ⟨k, i, none⟩ = false := hFV.notFrozen
      have hlen2 : (denseTo r c ls i).length = r * c := by simp [denseTo]
      obtain ⟨r0, hr0, _⟩ := (hFV.mk' hcs o2 n2).get (i := p + q * r) (by rw [hlen2]; omega)
      have hr1 := (cell_ext (by simpa using gl)).symm.trans hr0
      obtain ⟨blk, o, rfl, hblk, hc⟩ := hLW.at.2 (by omega)
      obtain ⟨b, hb0, hf⟩ := hc i (by omega)
      have hb := (gV.cell hblk).trans hb0
      have qb : blk ≠ k := by omega
      have kb : blk < V.heap.size := by omega
      have Hp := hid hp
      have Hq := hid hq
      clear hb0 hc hr0 m0 hp hq
      go_wp2
      refine wp_region_R (Over V k) [] [(0,0), (0,1), (0,2), (0,3), (0,4), (0,5), (0,6), (0,7), (0,8), (0,9), (0,10), (0,11), (0,12), (0,13), (1,14)] (by kernel_rfl) (by kernel_rfl) (fun _ _ _ _ h _ => h) ⟨_, _, _, ext_drew⟩ ?_
      go_wp2_with (first | ((with_reducible refine wpR_id ?_); first | (refine wpR_take (v := ?_) rfl rfl ?_ ?_; rotate_left; (focus (rintro w' ⟨cs', o', n', rfl⟩; go_simp; try with_reducible rfl)); simp only [Act.put, List.setIfInBounds_toArray, List.set_cons_zero, List.set_cons_succ]) | (refine wpR_pure (v := ?_) rfl rfl ?_ ?_; rotate_left; (focus (intro w'; go_simp; try with_reducible rfl)); simp only [Act.put, List.setIfInBounds_toArray, List.set_cons_zero, List.set_cons_succ]) | (refine wpR_takeG (v := ?_) rfl rfl rfl rfl rfl ?_ ?_; rotate_left; (focus (rintro w' ⟨cs', o', n', rfl⟩; go_simp; try with_reducible rfl)); simp only [Act.put, List.setIfInBounds_toArray, List.set_cons_zero, List.set_cons_succ]) | (refine wpR_skip rfl rfl rfl rfl rfl rfl ?_; simp only [Act.put, List.setIfInBounds_toArray, List.set_cons_zero, List.set_cons_succ]) | (refine wpR_skipU rfl rfl rfl rfl rfl ?_; simp only [Act.put, List.setIfInBounds_toArray, List.set_cons_zero, List.set_cons_succ]) | (refine wpR_do rfl rfl (fun K hK => ?_)) | (refine wpR_doG rfl rfl rfl rfl rfl (fun K hK => ?_)) | (refine wpR_last rfl rfl (fun K hK => ?_)) | (refine wpR_nil ?_)) | ((with_reducible refine wpR_go ?_ ?_); (focus exact ⟨_, _, _, rfl⟩)) | ((with_reducible refine upon_id ?_); refine upon_fop rfl (by assumption) (by assumption) ?_; intro rr nn hr))
      go_roundw
      case rel =>
        refine ⟨i + 1, _, _, _, by omega, by go_num, rfl, ?_⟩
        have h8 := hcs.set (i := p + q * r) hf
        unfold denseTo at h8 ⊢; unfold writes
        rw [← Hp.out, ← Hq.out]; exact h8
      case measure => simp [intOf]; omega
    · have e : i = r * c := by omega
      subst e
      have hfw : FW (ext (upd V k cs) o2 n2) k (denseL r c ls) := by unfold denseL; rw [HL.out, Nat.min_self]; exact hFV.mk' hcs _ _
      have gu : Grew w (upd V k cs) := (g0.trans gV).upd (by omega) cs
      go_wp2
      refine bodyPost_ret (v := .agg #[.slice (some ⟨k, 0, none⟩) (r * c) (r * c), .int .i64 0, .int .i64 r, .int .i64 c, .int .i64 r]) (by simp [results, Try.results69, go_sem, *]) rfl ?_
      exact ⟨_, rfl, ⟨k, r * c, by simp [denseL, denseTo], by omega, by (repeat (first | (with_reducible assumption) | ((with_reducible refine FW.ext_set ?_ ?_ ?_ _); rotate_left; (focus (simp only [size_setCell', World.size_alloc, size_ext, size_upd]; omega)); (focus (dsimp only; omega))) | ((with_reducible refine FW.setCell_ne ?_ ?_ _); rotate_left; (focus (dsimp only; omega))) | (with_reducible refine FW.ext ?_ _ _) | (with_reducible refine FW.alloc ?_ _))), by simp [denseL, denseTo]; omega⟩, by (show Grew _ _; repeat (first | (with_reducible exact Grew.refl _) | (with_reducible assumption) | (with_reducible exact Grew.same_o) | (with_reducible exact Grew.app_o) | (with_reducible refine Grew.ext ?_ _ _) | (with_reducible refine Grew.alloc ?_ _) | ((with_reducible refine Grew.setCell ?_ ?_ _); rotate_left; (focus (dsimp only; first | omega | (simp only [size_ext, World.size_alloc, Array.size_append]; omega)))) | (with_reducible refine Grew.drewN ?_ _) | (with_reducible refine Grew.drew ?_)))⟩
end Go.Proofs.Ytcmggfpcbijcjaa
end
section
/-
  New with its room; the numbers of what Dense makes.
-/
set_option linter.unusedSimpArgs false
set_option linter.unusedVariables false
open Go Go.RowKit Sedge
namespace Go.Proofs.Ytcmggfpcbijcjaa
set_option maxRecDepth 100000 in
/-- straightedgeref03.New. -/
theorem rnewc_any (r c : Nat) (w : World) (hr : r ≤ 1000) (hc : c ≤ 1000) :
   Calls Try.prog 68 #[.int .i64 r, .int .i64 c] w (fun e w' => ∃ k, e = .returned (.agg #[.int .i64 r, .int .i64 c, .slice (some ⟨k, 0, none⟩) (r * c) (r * c)]) ∧ w.heap.size ≤ k ∧ FW w' k (List.replicate (r * c) 0) ∧ ∃ o n, w' = ext w o n) := by
  have hm : r * c ≤ 1000 * 1000 := Nat.mul_le_mul hr hc
  have h2 : IntKind.i64.wrap ((r : Int) * c) = (r : Int) * c := IntWalk.i64_in _ (by rw [← Int.natCast_mul]; omega)
  go_enter Try.func68, Try.ntmps68
  refine seq_stop ?_
  go_wp2
  refine stop_go (fun W hW => ?_)
  have s1 : w.heap.size < W.heap.size := by rw [hW]; simp only [World.size_alloc]; omega
  have b1 : ∀ i, W.cell? ⟨w.heap.size, i, none⟩ = (#[.int .i64 0, .int .i64 0, .slice none 0 0] : Array Value)[i]? := by intro i; rw [hW]; go_simp
  have f1 : ∀ i, W.frozen? ⟨w.heap.size, i, none⟩ = false := by intro i; rw [hW]; go_simp
  have g0 : Grew w W := by rw [hW]; exact (Grew.refl _).alloc _
  clear hW
  go_wp2_with (at_make; refine make_f (L := (r : Int) * (c : Int)) finfo (Grew.refl W) _ _ rfl rfl (r * c) (Int.natCast_mul r c).symm rfl rfl (by omega) ?_; intro oo nn k hk ho; have hF := ho.made)
  refine bodyPost_ret (v := .agg #[.int .i64 r, .int .i64 c, .slice (some ⟨k, 0, none⟩) (r * c) (r * c)]) (by simp [results, Try.results68, go_sem, *]) rfl ?_
  exact ⟨_, rfl, by omega, by (repeat (first | (with_reducible assumption) | ((with_reducible refine FW.ext_set ?_ ?_ ?_ _); rotate_left; (focus (simp only [size_setCell', World.size_alloc, size_ext, size_upd]; omega)); (focus (dsimp only; omega))) | ((with_reducible refine FW.setCell_ne ?_ ?_ _); rotate_left; (focus (dsimp only; omega))) | (with_reducible refine FW.ext ?_ _ _) | (with_reducible refine FW.alloc ?_ _))), by (show Grew _ _; repeat (first | (with_reducible exact Grew.refl _) | (with_reducible assumption) | (with_reducible exact Grew.same_o) | (with_reducible exact Grew.app_o) | (with_reducible refine Grew.ext ?_ _ _) | (with_reducible refine Grew.alloc ?_ _) | ((with_reducible refine Grew.setCell ?_ ?_ _); rotate_left; (focus (dsimp only; first | omega | (simp only [size_ext, World.size_alloc, Array.size_append]; omega)))) | (with_reducible refine Grew.drewN ?_ _) | (with_reducible refine Grew.drew ?_)))⟩
theorem denseL_length (r c : Nat) (l : List Nat) : (denseL r c l).length = r * c := by simp [denseL, denseTo]
theorem dense_num {r c : Nat} {l : List Nat} (hl : l.length = r * c) {i j : Nat} (hi : i < r) (hj : j < c) : (denseL r c l).getD (i + j * r) 0 = l.getD (i * c + j) 0 := by
  have hc : 0 < c := by omega
  have hk : i * c + j < r * c := by
    have := Nat.mul_le_mul_right c (show i + 1 ≤ r by omega)
    rw [Nat.add_mul] at this; omega
  have e1 : (i * c + j) / c = i := by rw [Nat.add_comm, Nat.add_mul_div_right _ _ hc, Nat.div_eq_of_lt hj, Nat.zero_add]
  have e2 : (i * c + j) % c = j := by rw [Nat.add_comm, Nat.add_mul_mod_self_right, Nat.mod_eq_of_lt hj]
  unfold denseL denseTo
  rw [hl, Nat.min_self]
  have h := writes_at (l := List.replicate (r * c) 0) (p := fun k => k / c + k % c * r) (f := fun k => l.getD k 0) (r * c) (fun s t hs ht e => ?_) (fun t ht => ?_) (i * c + j) hk
  · simp only [e1, e2] at h
    exact h
  · have hs1 : s / c < r := by rw [Nat.div_lt_iff_lt_mul hc]; exact hs
    have ht1 : t / c < r := by rw [Nat.div_lt_iff_lt_mul hc]; exact ht
    have hr : 0 < r := by omega
    have m1 : (s / c + s % c * r) % r = s / c := by rw [Nat.add_mul_mod_self_right, Nat.mod_eq_of_lt hs1]
    have m2 : (t / c + t % c * r) % r = t / c := by rw [Nat.add_mul_mod_self_right, Nat.mod_eq_of_lt ht1]
    have n1 : (s / c + s % c * r) / r = s % c := by rw [Nat.add_mul_div_right _ _ hr, Nat.div_eq_of_lt hs1, Nat.zero_add]
    have n2 : (t / c + t % c * r) / r = t % c := by rw [Nat.add_mul_div_right _ _ hr, Nat.div_eq_of_lt ht1, Nat.zero_add]
    have q1 : s / c = t / c := by rw [← m1, ← m2, e]
    have q2 : s % c = t % c := by rw [← n1, ← n2, e]
    rw [← Nat.div_add_mod s c, ← Nat.div_add_mod t c, q1, q2]
  · have ht1 : t / c < r := by rw [Nat.div_lt_iff_lt_mul hc]; exact ht
    have ht2 : t % c < c := Nat.mod_lt _ hc
    rw [List.length_replicate]
    have := Nat.mul_le_mul_right r (show t % c + 1 ≤ c by omega)
    rw [Nat.add_mul, Nat.mul_comm c r] at this
    omega
end Go.Proofs.Ytcmggfpcbijcjaa
end
section
/-
  Contracts for GemmWhole: the law's same (90), straightedgeref08.Turn (88).
-/
set_option linter.unusedSimpArgs false
set_option linter.unusedVariables false
open Go Go.RowKit Sedge
namespace Go.Proofs.Ytcmggfpcbijcjaa
set_option maxRecDepth 100000 in
set_option maxHeartbeats 2000000 in
/-- straightedgelaw11.same, of lists alike. -/
theorem feqs_ok (D E : Value) (xs ys : List Nat) (w : World) (hD : FS w D xs) (hE : FS w E ys) (hn : xs.length = ys.length) (hq : ∀ k, k < xs.length → feq (xs.getD k 0) (ys.getD k 0) = true) :
   Calls Try.prog 90 #[D, E] w (fun e w' => e = .returned (.bool true) ∧ ∃ o n, w' = ext w o n) := by
  obtain ⟨a, cap, rfl⟩ := hD.shape
  obtain ⟨a', cap', rfl⟩ := hE.shape
  have hl := hD.len
  have HD := hD.at.2
  have HE := hE.at.2
  have hb0 : ((xs.length : Int) != (ys.length : Int)) = false := by simp; omega
  have Hn := hid hn
  have HQ := hid hq
  clear hD hE hn hq
  go_enter Try.func90, Try.ntmps90
  go_wp2
  go_loopw [4, 5] (fun s c wr => ∃ k : Nat, k ≤ xs.length ∧ s = .bool false ∧ c = .int .i64 k ∧ Grew w wr) (fun _ c _ => xs.length - (intOf c).toNat)
  case atStart => exact ⟨0, Nat.zero_le _, rfl, rfl, Grew.refl _⟩
  case round =>
    obtain ⟨k, hk, rfl, rfl, gr⟩ := hrel
    by_cases hlt : k < xs.length
    · obtain ⟨blk, o, rfl, hblk, hc⟩ := HD (by omega)
      obtain ⟨b, hb, hx⟩ := hc k hlt
      obtain ⟨blk', o', rfl, hblk', hc'⟩ := HE (by have := Hn.out; omega)
      obtain ⟨b', hb', hx'⟩ := hc' k (by have := Hn.out; omega)
      have hy2 : k < ys.length := by have := Hn.out; omega
      clear hc hc' HD HE
      have c1 := (gr.cell hblk).trans hb
      have c2 := (gr.cell hblk').trans hb'
      have k1 := Nat.lt_of_lt_of_le hblk gr.below.size
      have k2 := Nat.lt_of_lt_of_le hblk' gr.below.size
      have e1 : (FloatKind.f64.format.order b b' == some Ordering.eq) = true := by
        have h := HQ.out k hlt
        unfold feq at h
        rw [← hx.order hx'] at h; exact h
      have e2 : (FloatKind.f64.format.order b b' != some Ordering.eq) = false := by unfold bne; rw [e1]; rfl
      clear hb hb' hx hx' hblk hblk'
      go_wp2
      refine wp_region_R (Grew wr) [] [(0,0), (0,1), (0,2), (0,3), (0,4), (0,5), (0,6), (0,7), (0,8)] (by kernel_rfl) (by kernel_rfl) (fun _ _ _ _ h _ => h) (by first | exact ⟨_, _, ext_drew⟩ | exact ⟨_, _, drew_ext0⟩ | (show Grew _ _; repeat (first | (with_reducible exact Grew.refl _) | (with_reducible assumption) | (with_reducible exact Grew.same_o) | (with_reducible exact Grew.app_o) | (with_reducible refine Grew.ext ?_ _ _) | (with_reducible refine Grew.alloc ?_ _) | ((with_reducible refine Grew.setCell ?_ ?_ _); rotate_left; (focus (dsimp only; first | omega | (simp only [size_ext, World.size_alloc, Array.size_append]; omega)))) | (with_reducible refine Grew.drewN ?_ _) | (with_reducible refine Grew.drew ?_)))) ?_
      go_wp2_with (first | ((with_reducible refine wpR_id ?_); first | (refine wpR_take (v := ?_) rfl rfl ?_ ?_; rotate_left; (focus (rintro w' ⟨o', n', rfl⟩; go_simp; try with_reducible rfl)); simp only [Act.put, List.setIfInBounds_toArray, List.set_cons_zero, List.set_cons_succ]) | (refine wpR_pure (v := ?_) rfl rfl ?_ ?_; rotate_left; (focus (intro w'; go_simp; try with_reducible rfl)); simp only [Act.put, List.setIfInBounds_toArray, List.set_cons_zero, List.set_cons_succ]) | (refine wpR_takeG (v := ?_) rfl rfl rfl rfl rfl ?_ ?_; rotate_left; (focus (rintro w' ⟨o', n', rfl⟩; go_simp; try with_reducible rfl)); simp only [Act.put, List.setIfInBounds_toArray, List.set_cons_zero, List.set_cons_succ]) | (refine wpR_skip rfl rfl rfl rfl rfl rfl ?_; simp only [Act.put, List.setIfInBounds_toArray, List.set_cons_zero, List.set_cons_succ]) | (refine wpR_skipU rfl rfl rfl rfl rfl ?_; simp only [Act.put, List.setIfInBounds_toArray, List.set_cons_zero, List.set_cons_succ]) | (refine wpR_do rfl rfl (fun K hK => ?_)) | (refine wpR_doG rfl rfl rfl rfl rfl (fun K hK => ?_)) | (refine wpR_last rfl rfl (fun K hK => ?_)) | (refine wpR_nil ?_)) | ((with_reducible refine wpR_go ?_ ?_); (focus (show Grew _ _; repeat (first | (with_reducible exact Grew.refl _) | (with_reducible assumption) | (with_reducible exact Grew.same_o) | (with_reducible exact Grew.app_o) | (with_reducible refine Grew.ext ?_ _ _) | (with_reducible refine Grew.alloc ?_ _) | ((with_reducible refine Grew.setCell ?_ ?_ _); rotate_left; (focus (dsimp only; first | omega | (simp only [size_ext, World.size_alloc, Array.size_append]; omega)))) | (with_reducible refine Grew.drewN ?_ _) | (with_reducible refine Grew.drew ?_))))) | ((with_reducible refine upon_id ?_); refine upon_fop rfl (by assumption) (by assumption) ?_; intro rr nn hr))
      go_roundw
      case rel => exact ⟨k + 1, hlt, rfl, by go_num, Grew.trans gr (by (show Grew _ _; (try simp only [← Array.append_assoc]); repeat (first | (with_reducible exact Grew.same_o) | (with_reducible exact Grew.refl _) | (with_reducible assumption) | (with_reducible refine Grew.alloc ?_ _) | (with_reducible refine Grew.app_r ?_) | ((with_reducible refine Grew.setCell ?_ ?_ _); rotate_left; (focus (dsimp only; first | omega | (simp only [size_ext, World.size_alloc, Array.size_append]; omega)))) | (with_reducible refine Grew.ext ?_ _ _) | (with_reducible refine Grew.drewN ?_ _) | (with_reducible refine Grew.drew ?_))))⟩
      case measure => simp [intOf]; omega
    · have e : k = xs.length := by omega
      subst e
      go_wp2
      go_ret
      exact ⟨rfl, Grew.trans gr (by (show Grew _ _; (try simp only [← Array.append_assoc]); repeat (first | (with_reducible exact Grew.same_o) | (with_reducible exact Grew.refl _) | (with_reducible assumption) | (with_reducible refine Grew.alloc ?_ _) | (with_reducible refine Grew.app_r ?_) | ((with_reducible refine Grew.setCell ?_ ?_ _); rotate_left; (focus (dsimp only; first | omega | (simp only [size_ext, World.size_alloc, Array.size_append]; omega)))) | (with_reducible refine Grew.ext ?_ _ _) | (with_reducible refine Grew.drewN ?_ _) | (with_reducible refine Grew.drew ?_))))⟩
/-- The table turned, as far as the loops have come. -/
def stepT (M : Nat → Nat → Nat) (i j a b : Nat) : Nat := if b < i ∨ (b = i ∧ a < j) then M b a else 0
set_option maxRecDepth 100000 in
set_option maxHeartbeats 4000000 in
/-- straightedgeref08.Turn. -/
theorem rturn_any (R C : Nat) (T : List Nat) (M : Nat → Nat → Nat) (A : Value) (w : World) (hA : FS w A T) (hT : T.length = R * C) (hM : ∀ i j, i < R → j < C → T.getD (i * C + j) 0 = M i j) (hR : R ≤ 1000) (hC : C ≤ 1000) :
   Calls Try.prog 88 #[.agg #[.int .i64 R, .int .i64 C, A]] w (fun e w' => ∃ g t, e = .returned (.agg #[.int .i64 C, .int .i64 R, .slice (some ⟨g, 0, none⟩) (C * R) (C * R)]) ∧ w.heap.size ≤ g ∧ FW w' g t ∧ t.length = C * R ∧ (∀ i j, i < C → j < R → t.getD (i * R + j) 0 = M j i) ∧ ∃ o n, w' = ext w o n) := by
  have hRC : C * R ≤ 1000 * 1000 := Nat.mul_le_mul hC hR
  obtain ⟨Z, hZ⟩ : ∃ Z : List Nat, Z = List.replicate (C * R) 0 := ⟨_, rfl⟩
  have lZ : Z.length = C * R := by rw [hZ]; simp
  have hZ0 : ∀ k, Z.getD k 0 = 0 := fun k => by rw [hZ]; simp [List.getD_eq_getElem?_getD, List.getElem?_replicate]; split <;> rfl
  have hpl : Places (fun i j => i * R + j) C R Z.length := by rw [lZ]; exact tabPlaces C R
  have HZL := hid lZ
  have HZ0 := hid hZ0
  obtain ⟨aA, cA, rfl⟩ := hA.shape
  have hat : ∀ i j : Nat, i < R → j < C → ∀ w', FS w' (.slice aA T.length cA) T → Calls Try.prog 72 #[.agg #[.int .i64 R, .int .i64 C, .slice aA T.length cA], .int .i64 i, .int .i64 j] w' (fun e w2 => ∃ b, e = .returned (.float .f64 b) ∧ IsF b (M i j) ∧ ∃ o n, w2 = ext w' o n) := fun i j hi hj w' h => by
    have := rat_any R C i j (.slice aA T.length cA) T w' h hR hC (by omega) (by omega) (by rw [hT]; exact at_lt hi hj)
    rw [hM i j hi hj] at this; exact this
  obtain ⟨cap, hcap⟩ : ∃ cap, cap = Z.length := ⟨_, rfl⟩
  have hnw : ∀ w', Calls Try.prog 68 #[.int .i64 C, .int .i64 R] w' (fun e w2 => ∃ k, e = .returned (.agg #[.int .i64 C, .int .i64 R, .slice (some ⟨k, 0, none⟩) Z.length cap]) ∧ w'.heap.size ≤ k ∧ FW w2 k Z ∧ ∃ o n, w2 = ext w' o n) := fun w' => by
    have h := rnewc_any C R w' hC hR
    rw [← hZ, ← lZ] at h
    exact h.mono fun e w2 ⟨k, h1, h2, h3, h4⟩ => ⟨k, by rw [h1, hcap], h2, h3, h4⟩
  have HC := hid hcap
  clear hcap
  clear hT hM hZ lZ hZ0
  go_enter Try.func88, Try.ntmps88
  refine seq_stop ?_
  go_wp2
  refine stop_go (fun W hW => ?_)
  have s1 : w.heap.size < W.heap.size := by rw [hW]; simp only [World.size_alloc]; omega
  have b1 : ∀ i, W.cell? ⟨w.heap.size, i, none⟩ = (#[.int .i64 R, .int .i64 C, .slice aA T.length cA] : Array Value)[i]? := by intro i; rw [hW]; go_simp
  have f1 : ∀ i, W.frozen? ⟨w.heap.size, i, none⟩ = false := by intro i; rw [hW]; go_simp
  have s2 : w.heap.size + 1 < W.heap.size := by rw [hW]; simp only [World.size_alloc]; omega
  have b2 : ∀ i, W.cell? ⟨w.heap.size + 1, i, none⟩ = (#[.int .i64 0, .int .i64 0, .slice none 0 0] : Array Value)[i]? := by intro i; rw [hW]; go_simp
  have f2 : ∀ i, W.frozen? ⟨w.heap.size + 1, i, none⟩ = false := by intro i; rw [hW]; go_simp
  have g0 : Grew w W := by rw [hW]; exact ((Grew.refl _).alloc _).alloc _
  clear hW
  have hAW := hA.grew g0
  go_wp2_with (first | (go_at_call 68; ((with_reducible refine (hnw _).mono ?_); rintro e w1 ⟨g, rfl, hg, hF, oc, nc, rfl⟩)))
  refine name_any (fun V hV => ?_)
  have gV : Grew W V := by rw [← hV]; (show Grew _ _; repeat (first | (with_reducible exact Grew.refl _) | (with_reducible assumption) | (with_reducible exact Grew.same_o) | (with_reducible exact Grew.app_o) | (with_reducible refine Grew.ext ?_ _ _) | (with_reducible refine Grew.alloc ?_ _) | ((with_reducible refine Grew.setCell ?_ ?_ _); rotate_left; (focus (dsimp only; first | omega | (simp only [size_ext, World.size_alloc, Array.size_append]; omega)))) | (with_reducible refine Grew.drewN ?_ _) | (with_reducible refine Grew.drew ?_)))
  have zw := g0.below.size
  have zV := gV.below.size
  have hFV : FW V g Z := by rw [← hV]; (repeat (first | (with_reducible assumption) | ((with_reducible refine FW.ext_set ?_ ?_ ?_ _); rotate_left; (focus (simp only [size_setCell', World.size_alloc, size_ext, size_upd]; omega)); (focus (dsimp only; omega))) | ((with_reducible refine FW.setCell_ne ?_ ?_ _); rotate_left; (focus (dsimp only; omega))) | (with_reducible refine FW.ext ?_ _ _) | (with_reducible refine FW.alloc ?_ _)))
  have cT : ∀ i, V.cell? ⟨W.heap.size + oc.size, i, none⟩ = (#[.int .i64 C, .int .i64 R, .slice (some ⟨g, 0, none⟩) Z.length cap] : Array Value)[i]? := by subst hV; intro i; go_simp
  have kT : W.heap.size + oc.size < V.heap.size := by rw [← hV]; simp only [World.size_alloc, size_ext]; omega
  have ngT : W.heap.size + oc.size ≠ g := by have := hF.lt; simp only [size_ext] at this; omega
  obtain ⟨U, hU⟩ : ∃ U, W.heap.size + oc.size = U := ⟨_, rfl⟩
  have zU : W.heap.size ≤ U := by omega
  rw [hU] at cT kT ngT
  simp only [hU]
  have hG : ∀ k ∈ [g], W.heap.size ≤ k := by intro k hk; simp at hk; omega
  have hDu := But.fs gV hAW hG
  have c1 := But.boxW gV s1 b1 hG
  have c2 := But.boxW gV s2 b2 hG
  have z2 : ∀ w', But V [g] w' → ∀ i, w'.frozen? ⟨w.heap.size + 1, i, none⟩ = false := fun w' hb i => by
    have h1 := hb.block (w.heap.size + 1) (by omega) (by simp; omega)
    have h2 := (gV.frozen s2).trans (f2 i)
    unfold World.frozen? at h2 ⊢; simp only [h1] at h2 ⊢; exact h2
  have cU : ∀ w', But V [g] w' → ∀ i, w'.cell? ⟨U, i, none⟩ = (#[.int .i64 C, .int .i64 R, .slice (some ⟨g, 0, none⟩) Z.length cap] : Array Value)[i]? := fun w' h i => (h.cell kT (by simpa using ngT)).trans (cT i)
  have kV : w.heap.size < V.heap.size := by omega
  have kV2 : w.heap.size + 1 < V.heap.size := by omega
  clear hV hU cT b1 b2 f1 f2 hF hnw
  go_loopw [4] (fun c wr => ∃ (i : Nat) (L : List Nat), i ≤ R ∧ c = .int .i64 i ∧ But V [g] wr ∧ FW wr g L ∧ Hold (fun i j => i * R + j) C R Z L (stepT M i 0)) (fun c _ => R - (intOf c).toNat)
  case atStart => exact ⟨0, Z, Nat.zero_le _, rfl, But.refl _ _, hFV, ⟨rfl, fun a b _ _ => by rw [HZ0.out]; simp [stepT], fun _ _ => rfl⟩⟩
  case round =>
    obtain ⟨i, L, hi, rfl, hB, hL, hH⟩ := hrel
    have t1 := c1 _ hB
    have sB := hB.size
    have x1 : w.heap.size < wr.heap.size := by omega
    by_cases hlt : (i : Int) < R
    · have hiR : i < R := by omega
      go_wp2
      go_loopw [5] (fun c wr => ∃ (j : Nat) (L : List Nat), j ≤ C ∧ c = .int .i64 j ∧ But V [g] wr ∧ FW wr g L ∧ Hold (fun i j => i * R + j) C R Z L (stepT M i j)) (fun c _ => C - (intOf c).toNat)
      case atStart => exact ⟨0, L, Nat.zero_le _, rfl, hB, hL, hH⟩
      case round =>
        obtain ⟨j, L2, hj, rfl, hB2, hL2, hH2⟩ := hrel
        have t1 := c1 _ hB2
        have tU := cU _ hB2
        have sB := hB2.size
        have x1 : w.heap.size < wr.heap.size := by omega
        have xU : U < wr.heap.size := by omega
        by_cases hl2 : (j : Int) < C
        · have hjC : j < C := by omega
          have hatij := hat i j hiR hjC
          have hset : ∀ w' r z, FW w' g L2 → IsF r z → Calls Try.prog 134 #[.agg #[.int .i64 C, .int .i64 R, .slice (some ⟨g, 0, none⟩) Z.length cap], .int .i64 j, .int .i64 i, .float .f64 r] w' (fun e w2 => e = .returned (.tuple #[]) ∧ Wrote w' w2 g (L2.set (j * R + i) z)) := fun w' r z h1 h2 =>
            rset_any C R j i g cap Z.length r z L2 w' h1 h2 hH2.len.symm hC hR (by omega) (by omega) (by rw [hH2.len, HZL.out]; exact at_lt hjC hiR)
          go_wp2
          refine wp_region_R (But V [g]) [] [(0,0), (0,1), (0,2), (0,3), (0,4), (0,5), (1,6), (1,7)] (by kernel_rfl) (by kernel_rfl) (fun _ _ _ _ h _ => h) (hB2.grew ((Grew.refl _).drew)) ?_
          refine name_any (fun V6 hV6 => ?_)
          have hg6 : Grew wr V6 := by rw [← hV6]; (show Grew _ _; repeat (first | (with_reducible exact Grew.refl _) | (with_reducible assumption) | (with_reducible exact Grew.same_o) | (with_reducible exact Grew.app_o) | (with_reducible refine Grew.ext ?_ _ _) | (with_reducible refine Grew.alloc ?_ _) | ((with_reducible refine Grew.setCell ?_ ?_ _); rotate_left; (focus (dsimp only; first | omega | (simp only [size_ext, World.size_alloc, Array.size_append]; omega)))) | (with_reducible refine Grew.drewN ?_ _) | (with_reducible refine Grew.drew ?_)))
          have B6 := hB2.grew hg6
          have F6 := hL2.grew hg6
          clear hV6 hg6
          go_wp2_with (first | ((with_reducible refine wpR_id ?_); first | (refine wpR_take (v := ?_) rfl rfl ?_ ?_; rotate_left; (focus (intro w' hw'; go_simp; try with_reducible rfl)); simp only [Act.put, List.setIfInBounds_toArray, List.set_cons_zero, List.set_cons_succ]) | (refine wpR_pure (v := ?_) rfl rfl ?_ ?_; rotate_left; (focus (intro w'; go_simp; try with_reducible rfl)); simp only [Act.put, List.setIfInBounds_toArray, List.set_cons_zero, List.set_cons_succ]) | (refine wpR_takeG (v := ?_) rfl rfl rfl rfl rfl ?_ ?_; rotate_left; (focus (intro w' hw'; go_simp; try with_reducible rfl)); simp only [Act.put, List.setIfInBounds_toArray, List.set_cons_zero, List.set_cons_succ]) | (refine wpR_skip rfl rfl rfl rfl rfl rfl ?_; simp only [Act.put, List.setIfInBounds_toArray, List.set_cons_zero, List.set_cons_succ]) | (refine wpR_skipU rfl rfl rfl rfl rfl ?_; simp only [Act.put, List.setIfInBounds_toArray, List.set_cons_zero, List.set_cons_succ]) | (refine wpR_do rfl rfl (fun K hK => ?_)) | (refine wpR_doG rfl rfl rfl rfl rfl (fun K hK => ?_)) | (refine wpR_last rfl rfl (fun K hK => ?_)) | (refine wpR_nil ?_)) | ((with_reducible refine wpR_go ?_ ?_); (focus (with_reducible assumption))) | ((with_reducible refine upon_id ?_); refine upon_fop rfl (by assumption) (by assumption) ?_; intro rr nn hr) | (go_at_call 72; ((with_reducible refine (hatij _ (hDu _ (by assumption))).mono ?_); rintro e w1 ⟨r1, rfl, hr1, hw1⟩; (have B7 := B6.grew hw1; have F7 := F6.grew hw1))) | (go_at_call 134; ((with_reducible refine (hset _ r1 _ F7 hr1).mono ?_); rintro e w1 ⟨rfl, hw5⟩; (have B11 := B7.wrote hw5 (.inl (by simp))))))
          go_roundw
          case rel =>
            refine ⟨j + 1, _, by omega, by go_num, B11, hw5.fw F7, (hH2.set hpl hjC hiR).congr fun a b ha hb => ?_⟩
            unfold stepT
            by_cases hrc : a = j ∧ b = i
            · obtain ⟨rfl, rfl⟩ := hrc
              simp
            · rw [if_neg hrc]
              by_cases h2 : b < i ∨ (b = i ∧ a < j)
              · rw [if_pos h2, if_pos (by omega)]
              · rw [if_neg h2, if_neg (by omega)]
          case measure => simp [intOf]; omega
        · have e : j = C := by omega
          go_wp2
          go_roundw
          case rel =>
            refine ⟨i + 1, L2, by omega, by go_num, hB2, hL2, hH2.congr fun a b ha hb => ?_⟩
            unfold stepT
            by_cases h2 : b < i ∨ (b = i ∧ a < j)
            · rw [if_pos h2, if_pos (by omega)]
            · rw [if_neg h2, if_neg (by omega)]
          case measure => simp [intOf]; omega
    · have e : i = R := by omega
      have t2 := c2 _ hB
      have tU := cU _ hB
      have zz := z2 _ hB
      have x2 : w.heap.size + 1 < wr.heap.size := by omega
      have xU : U < wr.heap.size := by omega
      go_wp2
      refine bodyPost_ret (v := .agg #[.int .i64 C, .int .i64 R, .slice (some ⟨g, 0, none⟩) Z.length cap]) (by simp [results, Try.results88, go_sem, *]) rfl ?_
      have gwr : Grew w wr := g0.trans (hB.grew0 gV hG)
      have hlL : L.length = Z.length := hH.len
      refine ⟨g, by rw [HC.out, HZL.out], by omega, L, by (repeat (first | (with_reducible assumption) | ((with_reducible refine FW.ext_set ?_ ?_ ?_ _); rotate_left; (focus (simp only [size_setCell', World.size_alloc, size_ext, size_upd]; omega)); (focus (dsimp only; omega))) | ((with_reducible refine FW.setCell_ne ?_ ?_ _); rotate_left; (focus (dsimp only; omega))) | (with_reducible refine FW.ext ?_ _ _) | (with_reducible refine FW.alloc ?_ _))), hlL.trans HZL.out, fun a b ha hb => ?_, by (show Grew _ _; repeat (first | (with_reducible exact Grew.refl _) | (with_reducible assumption) | (with_reducible exact Grew.same_o) | (with_reducible exact Grew.app_o) | (with_reducible refine Grew.ext ?_ _ _) | (with_reducible refine Grew.alloc ?_ _) | ((with_reducible refine Grew.setCell ?_ ?_ _); rotate_left; (focus (dsimp only; first | omega | (simp only [size_ext, World.size_alloc, Array.size_append]; omega)))) | (with_reducible refine Grew.drewN ?_ _) | (with_reducible refine Grew.drew ?_)))⟩
      have h9 := hH.get a b ha hb
      unfold stepT at h9
      rw [if_pos (by omega), List.getD_eq_getElem?_getD] at h9
      exact h9
end Go.Proofs.Ytcmggfpcbijcjaa
end
section
/-
  Contract for GemmWhole: the law's equal (89), of matrices alike.
-/
set_option linter.unusedSimpArgs false
set_option linter.unusedVariables false
open Go Go.RowKit Sedge
namespace Go.Proofs.Ytcmggfpcbijcjaa
set_option maxRecDepth 100000 in
set_option maxHeartbeats 4000000 in
/-- straightedgelaw11.equal, of matrices alike, off what is asked of them. -/
theorem equal_ok (a1 a2 : Option Addr) (n1 n2 k1 k2 : Nat) (o1 r1 c1 l1 o2 c2 l2 : Int) (T1 T2 : List Nat) (w : World)
    (g1 : ∀ w', Grew w w' → Calls Try.prog 46 #[.agg #[.slice a1 n1 k1, .int .i64 o1, .int .i64 r1, .int .i64 c1, .int .i64 l1]] w' (fun e w2 => e = .returned (.bool true) ∧ ∃ o n, w2 = ext w' o n))
    (g2 : ∀ w', Grew w w' → Calls Try.prog 46 #[.agg #[.slice a2 n2 k2, .int .i64 o2, .int .i64 r1, .int .i64 c2, .int .i64 l2]] w' (fun e w2 => e = .returned (.bool true) ∧ ∃ o n, w2 = ext w' o n))
    (h1 : ∀ w', Grew w w' → Calls Try.prog 48 #[.agg #[.slice a1 n1 k1, .int .i64 o1, .int .i64 r1, .int .i64 c1, .int .i64 l1]] w' (fun e w2 => ∃ v, e = .returned (.agg #[.int .i64 r1, .int .i64 c1, v]) ∧ FS w2 v T1 ∧ ∃ o n, w2 = ext w' o n))
    (h2 : ∀ w', Grew w w' → Calls Try.prog 48 #[.agg #[.slice a2 n2 k2, .int .i64 o2, .int .i64 r1, .int .i64 c2, .int .i64 l2]] w' (fun e w2 => ∃ v, e = .returned (.agg #[.int .i64 r1, .int .i64 c2, v]) ∧ FS w2 v T2 ∧ ∃ o n, w2 = ext w' o n))
    (hn : T1.length = T2.length) (hq : ∀ k, k < T1.length → feq (T1.getD k 0) (T2.getD k 0) = true) :
   Calls Try.prog 89 #[.agg #[.slice a1 n1 k1, .int .i64 o1, .int .i64 r1, .int .i64 c1, .int .i64 l1], .agg #[.slice a2 n2 k2, .int .i64 o2, .int .i64 r1, .int .i64 c2, .int .i64 l2]] w (fun e w' => e = .returned (.bool true) ∧ ∃ o n, w' = ext w o n) := by
  have hs := fun v1 v2 w' q1 q2 => feqs_ok v1 v2 T1 T2 w' q1 q2 hn hq
  have hfd : ∀ (v1 v2 v3 : Value) (w' : World), (Instr.field 51 (.agg #[v1, v2, v3]) 2).run Try.prog w' = .ok v3 w' := fun _ _ _ _ => by kernel_rfl
  clear hn hq
  go_enter Try.func89, Try.ntmps89
  refine seq_stop ?_
  go_wp2
  refine stop_go (fun W hW => ?_)
  have s1 : w.heap.size < W.heap.size := by rw [hW]; simp only [World.size_alloc]; omega
  have b1 : ∀ i, W.cell? ⟨w.heap.size, i, none⟩ = (#[.slice a1 n1 k1, .int .i64 o1, .int .i64 r1, .int .i64 c1, .int .i64 l1] : Array Value)[i]? := by intro i; rw [hW]; go_simp
  have X1 : Box W (w.heap.size) #[.slice a1 n1 k1, .int .i64 o1, .int .i64 r1, .int .i64 c1, .int .i64 l1] := by rw [hW]; refine Box.grew ?_ ((Grew.refl _).alloc _); exact Box.new' (by first | rfl | (simp only [World.size_alloc]; done) | (simp only [World.size_alloc]; omega))
  have f1 : ∀ i, W.frozen? ⟨w.heap.size, i, none⟩ = false := by intro i; rw [hW]; go_simp
  have s2 : w.heap.size + 1 < W.heap.size := by rw [hW]; simp only [World.size_alloc]; omega
  have b2 : ∀ i, W.cell? ⟨w.heap.size + 1, i, none⟩ = (#[.slice a2 n2 k2, .int .i64 o2, .int .i64 r1, .int .i64 c2, .int .i64 l2] : Array Value)[i]? := by intro i; rw [hW]; go_simp
  have X2 : Box W (w.heap.size + 1) #[.slice a2 n2 k2, .int .i64 o2, .int .i64 r1, .int .i64 c2, .int .i64 l2] := by rw [hW]; exact Box.new' (by first | rfl | (simp only [World.size_alloc]; done) | (simp only [World.size_alloc]; omega))
  have f2 : ∀ i, W.frozen? ⟨w.heap.size + 1, i, none⟩ = false := by intro i; rw [hW]; go_simp
  have g0 : Grew w W := by rw [hW]; exact ((Grew.refl _).alloc _).alloc _
  clear hW
  have t1 := X1.cell
  have t2 := X2.cell
  have l1' := X1.lt
  have l2' := X2.lt
  have g1 := fun w' g => g1 w' (Grew.trans g0 g)
  have g2 := fun w' g => g2 w' (Grew.trans g0 g)
  have h1 := fun w' g => h1 w' (Grew.trans g0 g)
  have h2 := fun w' g => h2 w' (Grew.trans g0 g)
  go_wp2
  refine wp_region_R (Grew W) [] [(0,0), (1,1), (0,2), (0,3), (1,4), (0,5), (0,6), (0,7), (0,8), (0,9), (0,10), (0,11), (0,12), (0,13), (0,14), (0,17), (1,15), (0,16), (1,18), (0,19), (1,20), (0,21), (0,22)] (by kernel_rfl) (by kernel_rfl) (fun _ _ _ _ h _ => h) (by first | exact ⟨_, _, ext_drew⟩ | exact ⟨_, _, drew_ext0⟩ | (show Grew _ _; repeat (first | (with_reducible exact Grew.refl _) | (with_reducible assumption) | (with_reducible exact Grew.same_o) | (with_reducible exact Grew.app_o) | (with_reducible refine Grew.ext ?_ _ _) | (with_reducible refine Grew.alloc ?_ _) | ((with_reducible refine Grew.setCell ?_ ?_ _); rotate_left; (focus (dsimp only; first | omega | (simp only [size_ext, World.size_alloc, Array.size_append]; omega)))) | (with_reducible refine Grew.drewN ?_ _) | (with_reducible refine Grew.drew ?_)))) ?_
  go_wp2_with (first | ((with_reducible refine wpR_id ?_); first | (refine wpR_take (v := ?_) rfl rfl ?_ ?_; rotate_left; (focus (rintro w' ⟨o', n', rfl⟩; go_simp; try with_reducible rfl)); simp only [Act.put, List.setIfInBounds_toArray, List.set_cons_zero, List.set_cons_succ]) | (refine wpR_pure (v := ?_) rfl rfl ?_ ?_; rotate_left; (focus (intro w'; go_simp; try with_reducible rfl)); simp only [Act.put, List.setIfInBounds_toArray, List.set_cons_zero, List.set_cons_succ]) | (refine wpR_takeG (v := ?_) rfl rfl rfl rfl rfl ?_ ?_; rotate_left; (focus (rintro w' ⟨o', n', rfl⟩; go_simp; try with_reducible rfl)); simp only [Act.put, List.setIfInBounds_toArray, List.set_cons_zero, List.set_cons_succ]) | (refine wpR_skip rfl rfl rfl rfl rfl rfl ?_; simp only [Act.put, List.setIfInBounds_toArray, List.set_cons_zero, List.set_cons_succ]) | (refine wpR_skipU rfl rfl rfl rfl rfl ?_; simp only [Act.put, List.setIfInBounds_toArray, List.set_cons_zero, List.set_cons_succ]) | (refine wpR_do rfl rfl (fun K hK => ?_)) | (refine wpR_doG rfl rfl rfl rfl rfl (fun K hK => ?_)) | (refine wpR_last rfl rfl (fun K hK => ?_)) | (refine wpR_nil ?_)) | ((with_reducible refine wpR_go ?_ ?_); (focus (show Grew _ _; repeat (first | (with_reducible exact Grew.refl _) | (with_reducible assumption) | (with_reducible exact Grew.same_o) | (with_reducible exact Grew.app_o) | (with_reducible refine Grew.ext ?_ _ _) | (with_reducible refine Grew.alloc ?_ _) | ((with_reducible refine Grew.setCell ?_ ?_ _); rotate_left; (focus (dsimp only; first | omega | (simp only [size_ext, World.size_alloc, Array.size_append]; omega)))) | (with_reducible refine Grew.drewN ?_ _) | (with_reducible refine Grew.drew ?_))))) | ((with_reducible refine upon_id ?_); refine upon_fop rfl (by assumption) (by assumption) ?_; intro rr nn hr) | (go_at_call 46; ((with_reducible refine (g1 _ (by (show Grew _ _; (try simp only [← Array.append_assoc]); repeat (first | (with_reducible exact Grew.same_o) | (with_reducible exact Grew.refl _) | (with_reducible assumption) | (with_reducible refine Grew.alloc ?_ _) | (with_reducible refine Grew.app_r ?_) | ((with_reducible refine Grew.setCell ?_ ?_ _); rotate_left; (focus (dsimp only; first | omega | (simp only [size_ext, World.size_alloc, Array.size_append]; omega)))) | (with_reducible refine Grew.ext ?_ _ _) | (with_reducible refine Grew.drewN ?_ _) | (with_reducible refine Grew.drew ?_))))).mono ?_); rintro e w1 ⟨rfl, p1, m1, rfl⟩)) | (go_at_call 46; ((with_reducible refine (g2 _ (by (show Grew _ _; (try simp only [← Array.append_assoc]); repeat (first | (with_reducible exact Grew.same_o) | (with_reducible exact Grew.refl _) | (with_reducible assumption) | (with_reducible refine Grew.alloc ?_ _) | (with_reducible refine Grew.app_r ?_) | ((with_reducible refine Grew.setCell ?_ ?_ _); rotate_left; (focus (dsimp only; first | omega | (simp only [size_ext, World.size_alloc, Array.size_append]; omega)))) | (with_reducible refine Grew.ext ?_ _ _) | (with_reducible refine Grew.drewN ?_ _) | (with_reducible refine Grew.drew ?_))))).mono ?_); rintro e w1 ⟨rfl, p2, m2, rfl⟩)) | (go_at_call 48; ((with_reducible refine (h1 _ (by (show Grew _ _; (try simp only [← Array.append_assoc]); repeat (first | (with_reducible exact Grew.same_o) | (with_reducible exact Grew.refl _) | (with_reducible assumption) | (with_reducible refine Grew.alloc ?_ _) | (with_reducible refine Grew.app_r ?_) | ((with_reducible refine Grew.setCell ?_ ?_ _); rotate_left; (focus (dsimp only; first | omega | (simp only [size_ext, World.size_alloc, Array.size_append]; omega)))) | (with_reducible refine Grew.ext ?_ _ _) | (with_reducible refine Grew.drewN ?_ _) | (with_reducible refine Grew.drew ?_))))).mono ?_); rintro e w1 ⟨v1, rfl, hv1, p3, m3, rfl⟩; (try simp only [drew_ext, drewN_ext, ext_ext, Array.append_assoc] at hv1))) | (go_at_call 48; ((with_reducible refine (h2 _ (by (show Grew _ _; (try simp only [← Array.append_assoc]); repeat (first | (with_reducible exact Grew.same_o) | (with_reducible exact Grew.refl _) | (with_reducible assumption) | (with_reducible refine Grew.alloc ?_ _) | (with_reducible refine Grew.app_r ?_) | ((with_reducible refine Grew.setCell ?_ ?_ _); rotate_left; (focus (dsimp only; first | omega | (simp only [size_ext, World.size_alloc, Array.size_append]; omega)))) | (with_reducible refine Grew.ext ?_ _ _) | (with_reducible refine Grew.drewN ?_ _) | (with_reducible refine Grew.drew ?_))))).mono ?_); rintro e w1 ⟨v2, rfl, hv2, p4, m4, rfl⟩; (try simp only [drew_ext, drewN_ext, ext_ext, Array.append_assoc] at hv2))) | (go_at_call 90; ((with_reducible refine (hs _ _ _ (hv1.grew (by (show Grew _ _; (try simp only [← Array.append_assoc]); repeat (first | (with_reducible exact Grew.same_o) | (with_reducible exact Grew.refl _) | (with_reducible assumption) | (with_reducible refine Grew.alloc ?_ _) | (with_reducible refine Grew.app_r ?_) | ((with_reducible refine Grew.setCell ?_ ?_ _); rotate_left; (focus (dsimp only; first | omega | (simp only [size_ext, World.size_alloc, Array.size_append]; omega)))) | (with_reducible refine Grew.ext ?_ _ _) | (with_reducible refine Grew.drewN ?_ _) | (with_reducible refine Grew.drew ?_))))) (hv2.grew (by (show Grew _ _; (try simp only [← Array.append_assoc]); repeat (first | (with_reducible exact Grew.same_o) | (with_reducible exact Grew.refl _) | (with_reducible assumption) | (with_reducible refine Grew.alloc ?_ _) | (with_reducible refine Grew.app_r ?_) | ((with_reducible refine Grew.setCell ?_ ?_ _); rotate_left; (focus (dsimp only; first | omega | (simp only [size_ext, World.size_alloc, Array.size_append]; omega)))) | (with_reducible refine Grew.ext ?_ _ _) | (with_reducible refine Grew.drewN ?_ _) | (with_reducible refine Grew.drew ?_)))))).mono ?_); rintro e w1 ⟨rfl, p5, m5, rfl⟩)))
  go_ret
  exact ⟨rfl, Grew.trans g0 (by (show Grew _ _; (try simp only [← Array.append_assoc]); repeat (first | (with_reducible exact Grew.same_o) | (with_reducible exact Grew.refl _) | (with_reducible assumption) | (with_reducible refine Grew.alloc ?_ _) | (with_reducible refine Grew.app_r ?_) | ((with_reducible refine Grew.setCell ?_ ?_ _); rotate_left; (focus (dsimp only; first | omega | (simp only [size_ext, World.size_alloc, Array.size_append]; omega)))) | (with_reducible refine Grew.ext ?_ _ _) | (with_reducible refine Grew.drewN ?_ _) | (with_reducible refine Grew.drew ?_))))⟩
end Go.Proofs.Ytcmggfpcbijcjaa
end
section
/-
  Plain laws for GemmWhole: sums of products of whole numbers, either way.
-/
set_option linter.unusedSimpArgs false
set_option linter.unusedVariables false
open Go Go.RowKit Sedge
namespace Go.Proofs.Ytcmggfpcbijcjaa
theorem wsum_add (f g : Nat → Int) : ∀ n, sumI (fun m => f m + g m) n = sumI f n + sumI g n
  | 0 => rfl
  | n + 1 => by
    show sumI (fun m => f m + g m) n + (f n + g n) = (sumI f n + f n) + (sumI g n + g n)
    rw [wsum_add f g n]; omega
theorem wsum_zero : ∀ n, sumI (fun _ => 0) n = 0
  | 0 => rfl
  | n + 1 => by show sumI (fun _ => 0) n + 0 = 0; rw [wsum_zero n]; rfl
theorem wsum_swap (f : Nat → Nat → Int) (m : Nat) : ∀ n, sumI (fun i => sumI (f i) m) n = sumI (fun j => sumI (fun i => f i j) n) m
  | 0 => (wsum_zero m).symm
  | n + 1 => by
    show sumI (fun i => sumI (f i) m) n + sumI (f n) m = sumI (fun j => sumI (fun i => f i j) n + f n j) m
    rw [wsum_swap f m n, wsum_add]
theorem wsum_mulr (a : Int) (f : Nat → Int) (n : Nat) : sumI (fun m => f m * a) n = sumI f n * a := by
  rw [Int.mul_comm, ← sumI_mul]
  exact sumI_congr n fun m _ => Int.mul_comm _ _
/-- (A B) C and A (B C): the same number at a place. -/
theorem wassoc (a c : Nat → Int) (b : Nat → Nat → Int) (p q : Nat) : sumI (fun k => sumI (fun l => a l * b l k) p * c k) q = sumI (fun l => a l * sumI (fun k => b l k * c k) q) p := by
  have e1 : sumI (fun k => sumI (fun l => a l * b l k) p * c k) q = sumI (fun k => sumI (fun l => a l * b l k * c k) p) q := sumI_congr q fun k _ => (wsum_mulr (c k) (fun l => a l * b l k) p).symm
  have e2 : sumI (fun l => a l * sumI (fun k => b l k * c k) q) p = sumI (fun l => sumI (fun k => a l * b l k * c k) q) p := sumI_congr p fun l _ => by
    rw [← sumI_mul]
    exact sumI_congr q fun k _ => (Int.mul_assoc _ _ _).symm
  rw [e1, e2]
  exact wsum_swap (fun k l => a l * b l k * c k) p q
/-- A product turned is the product of what is turned, the other way round. -/
theorem wturn (a b : Nat → Int) (p : Nat) : sumI (fun l => a l * b l) p = sumI (fun l => b l * a l) p := sumI_congr p fun _ _ => Int.mul_comm _ _
/-- One product, of whole numbers: the word at a place. -/
theorem wprod {M : Nat → Nat → Nat} {X : Nat → Nat} {i n A B : Nat} {mi xi : Nat → Int} (hM : ∀ k, k < n → WI (M i k) (mi k) ∧ (mi k).natAbs ≤ A) (hX : ∀ k, k < n → WI (X k) (xi k) ∧ (xi k).natAbs ≤ B) (hn : n * (A * B) < 2 ^ 53) (hB : B < 2 ^ 53) :
    WI (mulTo 4607182418800017408 M X 0 i n) (sumI (fun k => mi k * xi k) n) := by
  have h := mulTo_int (α := 4607182418800017408) (a := 1) (M := M) (X := X) (z := 0) (r := i) (zi := 0) (mi := mi) (xi := xi) (B := A * B) (Z := 0) WI.one WI.zero (by decide) n (by omega) (fun k hk => by
    obtain ⟨h1, h2⟩ := hM k hk
    obtain ⟨h3, h4⟩ := hX k hk
    refine ⟨h3, h1, by rw [Int.one_mul]; omega, ?_⟩
    rw [Int.one_mul, Int.natAbs_mul, Nat.mul_comm]
    exact Nat.mul_le_mul h2 h4)
  rw [Int.zero_add] at h
  have e : sumI (fun j => 1 * xi j * mi j) n = sumI (fun k => mi k * xi k) n := sumI_congr n fun k _ => by rw [Int.one_mul, Int.mul_comm]
  rw [e] at h; exact h
end Go.Proofs.Ytcmggfpcbijcjaa
end
section
/-
  Contract: view.Dense with numbers of a list with any room.
-/
set_option linter.unusedSimpArgs false
set_option linter.unusedVariables false
open Go Go.RowKit Sedge
namespace Go.Proofs.Ytcmggfpcbijcjaa
set_option maxRecDepth 100000 in
set_option maxHeartbeats 1000000 in
/-- view.Dense, of sizes within 64. -/
theorem dense_cap (r c cL : Nat) (aL : Option Addr) (ls : List Nat) (w : World) (hL : FS w (.slice aL ls.length cL) ls) (hr : r ≤ 64) (hc : c ≤ 64) (hr1 : 1 ≤ r) (hc1 : 1 ≤ c) (hlen : ls.length = r * c) (hcap : ls.length ≤ cL) :
   Calls Try.prog 69 #[.int .i64 r, .int .i64 c, .slice aL ls.length cL] w (fun e w' => ∃ v, e = .returned (.agg #[v, .int .i64 0, .int .i64 r, .int .i64 c, .int .i64 r]) ∧ WS w' w.heap.size v (denseL r c ls) ∧ ∃ o n, w' = ext w o n) := by
  have hm : r * c ≤ 64 * 64 := Nat.mul_le_mul hr hc
  have h2 : IntKind.i64.wrap ((r : Int) * c) = (r : Int) * c := IntWalk.i64_in _ (by rw [← Int.natCast_mul]; omega)
  have hlL := hL.len
  have d1 : decide ((r : Int) < 0) = false := by simp
  have d2 : decide ((c : Int) < 0) = false := by simp
  have d3 : decide ((64 : Int) < (r : Int)) = false := by simp; omega
  have d4 : decide ((64 : Int) < (c : Int)) = false := by simp; omega
  have d5 : (ls.length : Int) = (r : Int) * c := by rw [hlen, Int.natCast_mul]
  have d6 : decide ((1 : Int) ≤ (r : Int)) = true := by simp; omega
  have d7 : (r : Int) * c ≤ cL := by rw [← Int.natCast_mul]; omega
  have d8 : r * c ≤ cL := by omega
  go_enter Try.func69, Try.ntmps69
  refine seq_stop ?_
  go_wp2
  refine stop_go (fun W hW => ?_)
  have s1 : w.heap.size < W.heap.size := by rw [hW]; simp only [World.size_alloc]; omega
  have b1 : ∀ i, W.cell? ⟨w.heap.size, i, none⟩ = (#[.slice none 0 0, .int .i64 0, .int .i64 0, .int .i64 0, .int .i64 0] : Array Value)[i]? := by intro i; rw [hW]; go_simp
  have f1 : ∀ i, W.frozen? ⟨w.heap.size, i, none⟩ = false := by intro i; rw [hW]; go_simp
  have g0 : Grew w W := by rw [hW]; exact (Grew.refl _).alloc _
  clear hW
  have hLW : FS W (.slice aL ls.length cL) ls := hL.grew g0
  go_wp2_with (at_make; refine make_f (L := (r : Int) * (c : Int)) finfo (Grew.refl W) _ _ rfl rfl (r * c) (Int.natCast_mul r c).symm rfl rfl (by omega) ?_; intro oo nn k hk ho; have hF := ho.made)
  refine name_any (fun V hV => ?_)
  have gV : Grew W V := by rw [← hV]; (show Grew _ _; repeat (first | (with_reducible exact Grew.refl _) | (with_reducible assumption) | (with_reducible exact Grew.same_o) | (with_reducible exact Grew.app_o) | (with_reducible refine Grew.ext ?_ _ _) | (with_reducible refine Grew.alloc ?_ _) | ((with_reducible refine Grew.setCell ?_ ?_ _); rotate_left; (focus (dsimp only; first | omega | (simp only [size_ext, World.size_alloc, Array.size_append]; omega)))) | (with_reducible refine Grew.drewN ?_ _) | (with_reducible refine Grew.drew ?_)))
  have sV := gV.below.size
  have k1 : w.heap.size < V.heap.size := by omega
  have k3 : W.heap.size + oo.size < V.heap.size := by rw [← hV]; simp only [World.size_alloc, size_ext]; omega
  have c1 : ∀ i, V.cell? ⟨w.heap.size, i, none⟩ = (#[.slice none 0 0, .int .i64 0, .int .i64 0, .int .i64 0, .int .i64 0] : Array Value)[i]? := fun i => (gV.cell s1).trans (b1 i)
  have z1 : ∀ i, V.frozen? ⟨w.heap.size, i, none⟩ = false := fun i => (gV.frozen s1).trans (f1 i)
  have c3 : ∀ i, V.cell? ⟨W.heap.size + oo.size, i, none⟩ = (#[.slice (some ⟨k, 0, none⟩) (r * c) (r * c), .int .i64 0, .int .i64 r, .int .i64 c, .int .i64 r] : Array Value)[i]? := by subst hV; intro i; go_simp
  have hFV : FW V k (List.replicate (r * c) 0) := by rw [← hV]; (repeat (first | (with_reducible assumption) | ((with_reducible refine FW.ext_set ?_ ?_ ?_ _); rotate_left; (focus (simp only [size_setCell', World.size_alloc, size_ext, size_upd]; omega)); (focus (dsimp only; omega))) | ((with_reducible refine FW.setCell_ne ?_ ?_ _); rotate_left; (focus (dsimp only; omega))) | (with_reducible refine FW.ext ?_ _ _) | (with_reducible refine FW.alloc ?_ _)))
  have hLV : FS V (.slice aL ls.length cL) ls := hLW.grew gV
  have gl := hFV.lt
  have q1 : w.heap.size ≠ k := by omega
  have q3 : W.heap.size + oo.size ≠ k := by have := hF.lt; simp only [size_ext] at this; omega
  have HL := hid hlen
  clear hV b1 f1 hL ho
  go_loopw [43] (fun s wr => ∃ (i : Nat) (cs : Array Value) (o : Array Obj) (n : Nat), i ≤ r * c ∧ s = .int .i64 i ∧ wr = ext (upd V k cs) o n ∧ CF cs (denseTo r c ls i)) (fun s _ => r * c - (intOf s).toNat)
  case atStart =>
    obtain ⟨cs, h1, h2⟩ := hFV.self
    exact ⟨0, cs, #[], _, Nat.zero_le _, rfl, by rw [h1]; exact ext_zero.symm, h2⟩
  case round =>
    obtain ⟨i, cs, o2, n2, hi, rfl, hwr, hcs⟩ := hrel
    subst hwr
    by_cases hlt : i < r * c
    · have e1 : i / c < r := by rw [Nat.div_lt_iff_lt_mul (by omega)]; exact hlt
      have e2 : i % c < c := Nat.mod_lt _ (by omega)
      have e3 : i % c * r + r ≤ c * r := by have := Nat.mul_le_mul_right r e2; rw [Nat.succ_mul] at this; exact this
      have e4 : c * r = r * c := Nat.mul_comm c r
      obtain ⟨p, hp⟩ : ∃ p : Nat, p = i / c := ⟨_, rfl⟩
      obtain ⟨q, hq⟩ : ∃ q : Nat, q = i % c := ⟨_, rfl⟩
      rw [← hp] at e1
      rw [← hq] at e2 e3
      have hq1 : (i : Int).tdiv c = (p : Int) := by rw [hp]; rfl
      have hq2 : (i : Int).tmod c = (q : Int) := by rw [hq]; rfl
      have hq3 : (i : Int) / c = (p : Int) := by rw [hp]; rfl
      have hq4 : (i : Int) % c = (q : Int) := by rw [hq]; rfl
      have m0 : (q : Int) * r = ((q * r : Nat) : Int) := (Int.natCast_mul q r).symm
      have w1 : IntKind.i64.wrap ((q : Int) * r) = (q : Int) * r := IntWalk.i64_in _ (by omega)
      have w2 : IntKind.i64.wrap ((p : Int) + (q : Int) * r) = (p : Int) + (q : Int) * r := IntWalk.i64_in _ (by omega)
      have n0 : ((p : Int) + (q : Int) * r).toNat = p + q * r := by omega
      have n1 : 0 ≤ (p : Int) + (q : Int) * r := by omega
      have n3 : (p : Int) + (q : Int) * r < ((r * c : Nat) : Int) := by omega
      have n2' : (c : Int) ≠ 0 := by omega
      have n6 : (p : Int) + (q : Int) * r < (r : Int) * c := by rw [← Int.natCast_mul r c]; exact n3
      have n8 : p + q * r < r * c := by omega
      have n5 : ¬ c = 0 := by omega
      have w0 : IntKind.i64.wrap (p : Int) = p := IntWalk.i64_in _ (by omega)
      have w3 : IntKind.i64.wrap (q : Int) = q := IntWalk.i64_in _ (by omega)
      have n4 : ((c : Int) == 0) = false := by simp; omega
      have fz : ∀ i, V.frozen? ⟨k, i, none⟩ = false := hFV.notFrozen
      have hlen2 : (denseTo r c ls i).length = r * c := by simp [denseTo]
      obtain ⟨r0, hr0, _⟩ := (hFV.mk' hcs o2 n2).get (i := p + q * r) (by rw [hlen2]; omega)
      have hr1 := (cell_ext (by simpa using gl)).symm.trans hr0
      obtain ⟨blk, o, rfl, hblk, hc⟩ := hLW.at.2 (by omega)
      obtain ⟨b, hb0, hf⟩ := hc i (by omega)
      have hb := (gV.cell hblk).trans hb0
      have qb : blk ≠ k := by omega
      have kb : blk < V.heap.size := by omega
      have Hp := hid hp
      have Hq := hid hq
      clear hb0 hc hr0 m0 hp hq
      go_wp2
      refine wp_region_R (Over V k) [] [(0,0), (0,1), (0,2), (0,3), (0,4), (0,5), (0,6), (0,7), (0,8), (0,9), (0,10), (0,11), (0,12), (0,13), (1,14)] (by kernel_rfl) (by kernel_rfl) (fun _ _ _ _ h _ => h) ⟨_, _, _, ext_drew⟩ ?_
      go_wp2_with (first | ((with_reducible refine wpR_id ?_); first | (refine wpR_take (v := ?_) rfl rfl ?_ ?_; rotate_left; (focus (rintro w' ⟨cs', o', n', rfl⟩; go_simp; try with_reducible rfl)); simp only [Act.put, List.setIfInBounds_toArray, List.set_cons_zero, List.set_cons_succ]) | (refine wpR_pure (v := ?_) rfl rfl ?_ ?_; rotate_left; (focus (intro w'; go_simp; try with_reducible rfl)); simp only [Act.put, List.setIfInBounds_toArray, List.set_cons_zero, List.set_cons_succ]) | (refine wpR_takeG (v := ?_) rfl rfl rfl rfl rfl ?_ ?_; rotate_left; (focus (rintro w' ⟨cs', o', n', rfl⟩; go_simp; try with_reducible rfl)); simp only [Act.put, List.setIfInBounds_toArray, List.set_cons_zero, List.set_cons_succ]) | (refine wpR_skip rfl rfl rfl rfl rfl rfl ?_; simp only [Act.put, List.setIfInBounds_toArray, List.set_cons_zero, List.set_cons_succ]) | (refine wpR_skipU rfl rfl rfl rfl rfl ?_; simp only [Act.put, List.setIfInBounds_toArray, List.set_cons_zero, List.set_cons_succ]) | (refine wpR_do rfl rfl (fun K hK => ?_)) | (refine wpR_doG rfl rfl rfl rfl rfl (fun K hK => ?_)) | (refine wpR_last rfl rfl (fun K hK => ?_)) | (refine wpR_nil ?_)) | ((with_reducible refine wpR_go ?_ ?_); (focus exact ⟨_, _, _, rfl⟩)) | ((with_reducible refine upon_id ?_); refine upon_fop rfl (by assumption) (by assumption) ?_; intro rr nn hr))
      go_roundw
      case rel =>
        refine ⟨i + 1, _, _, _, by omega, by go_num, rfl, ?_⟩
        have h8 := hcs.set (i := p + q * r) hf
        unfold denseTo at h8 ⊢; unfold writes
        rw [← Hp.out, ← Hq.out]; exact h8
      case measure => simp [intOf]; omega
    · have e : i = r * c := by omega
      subst e
      have hfw : FW (ext (upd V k cs) o2 n2) k (denseL r c ls) := by unfold denseL; rw [HL.out, Nat.min_self]; exact hFV.mk' hcs _ _
      have gu : Grew w (upd V k cs) := (g0.trans gV).upd (by omega) cs
      go_wp2
      refine bodyPost_ret (v := .agg #[.slice (some ⟨k, 0, none⟩) (r * c) (r * c), .int .i64 0, .int .i64 r, .int .i64 c, .int .i64 r]) (by simp [results, Try.results69, go_sem, *]) rfl ?_
      exact ⟨_, rfl, ⟨k, r * c, by simp [denseL, denseTo], by omega, by (repeat (first | (with_reducible assumption) | ((with_reducible refine FW.ext_set ?_ ?_ ?_ _); rotate_left; (focus (simp only [size_setCell', World.size_alloc, size_ext, size_upd]; omega)); (focus (dsimp only; omega))) | ((with_reducible refine FW.setCell_ne ?_ ?_ _); rotate_left; (focus (dsimp only; omega))) | (with_reducible refine FW.ext ?_ _ _) | (with_reducible refine FW.alloc ?_ _))), by simp [denseL, denseTo]; omega⟩, by (show Grew _ _; repeat (first | (with_reducible exact Grew.refl _) | (with_reducible assumption) | (with_reducible exact Grew.same_o) | (with_reducible exact Grew.app_o) | (with_reducible refine Grew.ext ?_ _ _) | (with_reducible refine Grew.alloc ?_ _) | ((with_reducible refine Grew.setCell ?_ ?_ _); rotate_left; (focus (dsimp only; first | omega | (simp only [size_ext, World.size_alloc, Array.size_append]; omega)))) | (with_reducible refine Grew.drewN ?_ _) | (with_reducible refine Grew.drew ?_)))⟩
end Go.Proofs.Ytcmggfpcbijcjaa
end
section
/-
  The example of layer 4.
-/
set_option linter.unusedSimpArgs false
set_option linter.unusedVariables false
open Go Go.RowKit Sedge
namespace Go.Proofs.Ytcmggfpcbijcjaa
def M4 : List Nat := [4607182418800017408, 4611686018427387904, 4613937818241073152, 4616189618054758400]
def M4d : List Nat := [4607182418800017408, 4613937818241073152, 4611686018427387904, 4616189618054758400]
def M4r : List Nat := [4613937818241073152, 4607182418800017408, 4616189618054758400, 4611686018427387904]
theorem dense_4 (aL : Option Addr) (w : World) (hL : FS w (.slice aL 4 4) M4) :
   Calls Try.prog 69 #[.int .i64 2, .int .i64 2, .slice aL 4 4] w (fun e w' => ∃ v, e = .returned (.agg #[v, .int .i64 0, .int .i64 2, .int .i64 2, .int .i64 2]) ∧ WS w' w.heap.size v M4d ∧ ∃ o n, w' = ext w o n) := by
  have h := dense_any 2 2 aL M4 w hL (by decide) (by decide) (by decide) (by decide) rfl
  have e : denseL 2 2 M4 = M4d := by decide +kernel
  rw [e] at h
  exact h
theorem rows_4 (g cap : Nat) (w : World) (hF : FW w g M4d) :
   Calls Try.prog 44 #[.agg #[.slice (some ⟨g, 0, none⟩) 4 cap, .int .i64 0, .int .i64 2, .int .i64 2, .int .i64 2], .int .i64 0, .int .i64 1] w
     (fun e w' => e = .returned (.int .i64 0) ∧ Wrote w w' g M4r) := by
  have h := rows_any ⟨M4d, 0, 2, 2, 2⟩ g cap 0 1 w hF (by simp [MatM.wf, I64]) (by decide) (by simp [I64]) (by simp [I64])
  have e : rowsL ⟨M4d, 0, 2, 2, 2⟩ 0 1 = M4r := by decide +kernel
  have e2 : rowsE ⟨M4d, 0, 2, 2, 2⟩ 0 1 = 0 := by decide +kernel
  rw [e, e2] at h
  exact h
set_option maxRecDepth 100000 in
set_option maxHeartbeats 1000000 in
theorem awake04 (w : World) : Calls Try.prog 41 #[] w (fun e w' => e = .returned (.bool true) ∧ ∃ o n, w' = ext w o n) := by
  have h1 : ∀ x ∈ M4, IsF x x := by decide +kernel
  have h2 : ∀ x ∈ M4r, IsF x x := by decide +kernel
  have H1 := hid h1
  have H2 := hid h2
  have da : decide (M4r = M4r) = true := by decide +kernel
  clear h1 h2
  go_enter Try.func41, Try.ntmps41
  go_wp2_with (first | (go_at_call 69; ((with_reducible refine (dense_4 _ _ ?_).mono ?_); (focus (repeat (first | exact FS.lit M4 (by decide) H1.out 4 _ (by simp only [size_ext, World.size_alloc]) | exact FS.lit M4 (by decide) H1.out 4 _ rfl | refine FS.alloc ?_ _ | refine FS.ext ?_ _ _))); rintro e w1 ⟨v, rfl, ⟨g, cap, rfl, hg, hF, hgl⟩, o1, n1, rfl⟩)))
  refine name_call (fun V hV => ?_)
  have gV : Grew w V := by rw [← hV]; (show Grew _ _; repeat (first | (with_reducible exact Grew.refl _) | (with_reducible assumption) | (with_reducible exact Grew.same_o) | (with_reducible exact Grew.app_o) | (with_reducible refine Grew.ext ?_ _ _) | (with_reducible refine Grew.alloc ?_ _) | ((with_reducible refine Grew.setCell ?_ ?_ _); rotate_left; (focus (dsimp only; first | omega | (simp only [size_ext, World.size_alloc, Array.size_append]; omega)))) | (with_reducible refine Grew.drewN ?_ _) | (with_reducible refine Grew.drew ?_)))
  have hFV : FW V g M4d := by rw [← hV]; (repeat (first | (with_reducible assumption) | ((with_reducible refine FW.ext_set ?_ ?_ ?_ _); rotate_left; (focus (simp only [size_setCell', World.size_alloc, size_ext, size_upd]; omega)); (focus (dsimp only; omega))) | ((with_reducible refine FW.setCell_ne ?_ ?_ _); rotate_left; (focus (dsimp only; omega))) | (with_reducible refine FW.ext ?_ _ _) | (with_reducible refine FW.alloc ?_ _)))
  have gl := hFV.lt
  have k3 : w.heap.size + 1 + o1.size < V.heap.size := by rw [← hV]; simp only [World.size_alloc, size_ext]; omega
  have c3 : ∀ i, V.cell? ⟨w.heap.size + 1 + o1.size, i, none⟩ = (#[.slice (some ⟨g, 0, none⟩) M4d.length cap, .int .i64 0, .int .i64 2, .int .i64 2, .int .i64 2] : Array Value)[i]? := by subst hV; intro i; go_simp
  have q3 : w.heap.size + 1 + o1.size ≠ g := by have := hF.lt; simp only [size_ext, World.size_alloc] at this; omega
  have hgw : w.heap.size ≤ g := by simp only [World.size_alloc] at hg; omega
  clear hV
  have hrows : Calls Try.prog 44 #[.agg #[.slice (some ⟨g, 0, none⟩) M4d.length cap, .int .i64 0, .int .i64 2, .int .i64 2, .int .i64 2], .int .i64 0, .int .i64 1] V
     (fun e w' => e = .returned (.int .i64 0) ∧ Wrote V w' g M4r) := rows_4 g cap V hFV
  (with_reducible refine hrows.mono ?_)
  rintro e w2 ⟨rfl, hw⟩
  have hF2 := hw.fw hFV
  have g2 : Grew w w2 := hw.grew gV hgw
  have hfs : FS w2 (.slice (some ⟨g, 0, none⟩) M4d.length cap) M4r := hF2.fs (by decide) cap
  obtain ⟨cs, o3, n3, hw2, hcs⟩ := hw
  have hcell : w2.cell? ⟨w.heap.size + 1 + o1.size, 0, none⟩ = some (.slice (some ⟨g, 0, none⟩) M4d.length cap) := by rw [hw2, cell_ext (by simpa using k3), cell_upd_ne q3]; exact c3 0
  have k4 : w.heap.size + 1 + o1.size < w2.heap.size := by rw [hw2]; simp only [size_ext, size_upd]; omega
  have HW := hid hw2
  clear hw2
  go_wp2_with (first | (go_at_call 47; ((with_reducible refine (all_any _ _ M4r M4r _ ?_ ?_).mono ?_); (focus (with_reducible exact hfs.alloc _)); (focus (repeat (first | exact FS.lit M4r (by decide) H2.out 4 _ (by simp only [size_ext, World.size_alloc]) | exact FS.lit M4r (by decide) H2.out 4 _ rfl | refine FS.alloc ?_ _ | refine FS.ext ?_ _ _))); rintro e w1 ⟨rfl, o4, n4, rfl⟩)))
  go_ret
  exact ⟨rfl, by (show Grew _ _; repeat (first | (with_reducible exact Grew.refl _) | (with_reducible assumption) | (with_reducible exact Grew.same_o) | (with_reducible exact Grew.app_o) | (with_reducible refine Grew.ext ?_ _ _) | (with_reducible refine Grew.alloc ?_ _) | ((with_reducible refine Grew.setCell ?_ ?_ _); rotate_left; (focus (dsimp only; first | omega | (simp only [size_ext, World.size_alloc, Array.size_append]; omega)))) | (with_reducible refine Grew.drewN ?_ _) | (with_reducible refine Grew.drew ?_)))⟩
end Go.Proofs.Ytcmggfpcbijcjaa
end
section
/-
  Layer 11: the law's great, of three matrices; the example.
-/
set_option linter.unusedSimpArgs false
set_option linter.unusedVariables false
open Go Go.RowKit Sedge
namespace Go.Proofs.Ytcmggfpcbijcjaa
set_option maxRecDepth 100000 in
set_option maxHeartbeats 4000000 in
/-- The law's great. -/
theorem great11_any (x y z : MatM) (X Y Z : Value) (w : World) (hX : FS w X x.ws) (hY : FS w Y y.ws) (hZ : FS w Z z.ws) :
   Calls Try.prog 74 #[.agg #[X, .int .i64 x.off, .int .i64 x.rows, .int .i64 x.cols, .int .i64 x.ld], .agg #[Y, .int .i64 y.off, .int .i64 y.rows, .int .i64 y.cols, .int .i64 y.ld], .agg #[Z, .int .i64 z.off, .int .i64 z.rows, .int .i64 z.cols, .int .i64 z.ld]] w (fun e w' => e = .returned (.bool (MatM.great x || MatM.great y || MatM.great z)) ∧ ∃ o n, w' = ext w o n) := by
  have h1 : ∀ b, MatM.great x = b → ∀ w', FS w' X x.ws → Calls Try.prog 42 #[.agg #[X, .int .i64 x.off, .int .i64 x.rows, .int .i64 x.cols, .int .i64 x.ld]] w' (fun e w2 => e = .returned (.bool b) ∧ ∃ o n, w2 = ext w' o n) := fun b hb w' h => by have := great_any x X w' h; rw [hb] at this; exact this
  have h2 : ∀ b, MatM.great y = b → ∀ w', FS w' Y y.ws → Calls Try.prog 42 #[.agg #[Y, .int .i64 y.off, .int .i64 y.rows, .int .i64 y.cols, .int .i64 y.ld]] w' (fun e w2 => e = .returned (.bool b) ∧ ∃ o n, w2 = ext w' o n) := fun b hb w' h => by have := great_any y Y w' h; rw [hb] at this; exact this
  have h3 : ∀ b, MatM.great z = b → ∀ w', FS w' Z z.ws → Calls Try.prog 42 #[.agg #[Z, .int .i64 z.off, .int .i64 z.rows, .int .i64 z.cols, .int .i64 z.ld]] w' (fun e w2 => e = .returned (.bool b) ∧ ∃ o n, w2 = ext w' o n) := fun b hb w' h => by have := great_any z Z w' h; rw [hb] at this; exact this
  cases g1 : MatM.great x
  · replace h1 := h1 _ g1
    cases g2 : MatM.great y
    · replace h2 := h2 _ g2
      cases g3 : MatM.great z
      · replace h3 := h3 _ g3
        clear g1 g2 g3
        go_enter Try.func74, Try.ntmps74
        refine seq_stop ?_
        go_wp2
        refine stop_go (fun W hW => ?_)
        have s1 : w.heap.size < W.heap.size := by rw [hW]; simp only [World.size_alloc]; omega
        have b1 : ∀ i, W.cell? ⟨w.heap.size, i, none⟩ = (#[X, .int .i64 x.off, .int .i64 x.rows, .int .i64 x.cols, .int .i64 x.ld] : Array Value)[i]? := by intro i; rw [hW]; go_simp
        have s2 : w.heap.size + 1 < W.heap.size := by rw [hW]; simp only [World.size_alloc]; omega
        have b2 : ∀ i, W.cell? ⟨w.heap.size + 1, i, none⟩ = (#[Y, .int .i64 y.off, .int .i64 y.rows, .int .i64 y.cols, .int .i64 y.ld] : Array Value)[i]? := by intro i; rw [hW]; go_simp
        have s3 : w.heap.size + 1 + 1 < W.heap.size := by rw [hW]; simp only [World.size_alloc]; omega
        have b3 : ∀ i, W.cell? ⟨w.heap.size + 1 + 1, i, none⟩ = (#[Z, .int .i64 z.off, .int .i64 z.rows, .int .i64 z.cols, .int .i64 z.ld] : Array Value)[i]? := by intro i; rw [hW]; go_simp
        have g0 : Grew w W := by rw [hW]; exact (((Grew.refl _).alloc _).alloc _).alloc _
        clear hW
        have hXW := hX.grew g0
        have hYW := hY.grew g0
        have hZW := hZ.grew g0
        go_wp2_with (first | (go_at_call 42; ((with_reducible refine (h1 _ ?_).mono ?_); (focus (first | (with_reducible assumption) | (with_reducible refine FS.ext ?_ _ _; with_reducible assumption) | (with_reducible refine IS.ext ?_ _ _; with_reducible assumption) | (refine hDu _ ?_; with_reducible assumption) | (refine hOu _ ?_; with_reducible assumption) | (refine hDa _ ?_; with_reducible assumption) | (refine hDb _ ?_; with_reducible assumption) | (refine hDc _ ?_; with_reducible assumption) | (refine hDd _ ?_; with_reducible assumption) | (refine FW.fs ?_ (by omega) _; with_reducible assumption) | (refine WS.fs ?_; with_reducible assumption) | (refine FW.fs ?_ (by omega) _; assumption) | omega | assumption)); rintro e w1 ⟨rfl, oa, na, rfl⟩)) | (go_at_call 42; ((with_reducible refine (h2 _ ?_).mono ?_); (focus (first | (with_reducible assumption) | (with_reducible refine FS.ext ?_ _ _; with_reducible assumption) | (with_reducible refine IS.ext ?_ _ _; with_reducible assumption) | (refine hDu _ ?_; with_reducible assumption) | (refine hOu _ ?_; with_reducible assumption) | (refine hDa _ ?_; with_reducible assumption) | (refine hDb _ ?_; with_reducible assumption) | (refine hDc _ ?_; with_reducible assumption) | (refine hDd _ ?_; with_reducible assumption) | (refine FW.fs ?_ (by omega) _; with_reducible assumption) | (refine WS.fs ?_; with_reducible assumption) | (refine FW.fs ?_ (by omega) _; assumption) | omega | assumption)); rintro e w1 ⟨rfl, ob, nb, rfl⟩)) | (go_at_call 42; ((with_reducible refine (h3 _ ?_).mono ?_); (focus (first | (with_reducible assumption) | (with_reducible refine FS.ext ?_ _ _; with_reducible assumption) | (with_reducible refine IS.ext ?_ _ _; with_reducible assumption) | (refine hDu _ ?_; with_reducible assumption) | (refine hOu _ ?_; with_reducible assumption) | (refine hDa _ ?_; with_reducible assumption) | (refine hDb _ ?_; with_reducible assumption) | (refine hDc _ ?_; with_reducible assumption) | (refine hDd _ ?_; with_reducible assumption) | (refine FW.fs ?_ (by omega) _; with_reducible assumption) | (refine WS.fs ?_; with_reducible assumption) | (refine FW.fs ?_ (by omega) _; assumption) | omega | assumption)); rintro e w1 ⟨rfl, oc, nc, rfl⟩)))
        go_ret
        exact ⟨rfl, by (show Grew _ _; repeat (first | (with_reducible exact Grew.refl _) | (with_reducible assumption) | (with_reducible exact Grew.same_o) | (with_reducible exact Grew.app_o) | (with_reducible refine Grew.ext ?_ _ _) | (with_reducible refine Grew.alloc ?_ _) | ((with_reducible refine Grew.setCell ?_ ?_ _); rotate_left; (focus (dsimp only; first | omega | (simp only [size_ext, World.size_alloc, Array.size_append]; omega)))) | (with_reducible refine Grew.drewN ?_ _) | (with_reducible refine Grew.drew ?_)))⟩
      · replace h3 := h3 _ g3
        clear g1 g2 g3
        go_enter Try.func74, Try.ntmps74
        refine seq_stop ?_
        go_wp2
        refine stop_go (fun W hW => ?_)
        have s1 : w.heap.size < W.heap.size := by rw [hW]; simp only [World.size_alloc]; omega
        have b1 : ∀ i, W.cell? ⟨w.heap.size, i, none⟩ = (#[X, .int .i64 x.off, .int .i64 x.rows, .int .i64 x.cols, .int .i64 x.ld] : Array Value)[i]? := by intro i; rw [hW]; go_simp
        have s2 : w.heap.size + 1 < W.heap.size := by rw [hW]; simp only [World.size_alloc]; omega
        have b2 : ∀ i, W.cell? ⟨w.heap.size + 1, i, none⟩ = (#[Y, .int .i64 y.off, .int .i64 y.rows, .int .i64 y.cols, .int .i64 y.ld] : Array Value)[i]? := by intro i; rw [hW]; go_simp
        have s3 : w.heap.size + 1 + 1 < W.heap.size := by rw [hW]; simp only [World.size_alloc]; omega
        have b3 : ∀ i, W.cell? ⟨w.heap.size + 1 + 1, i, none⟩ = (#[Z, .int .i64 z.off, .int .i64 z.rows, .int .i64 z.cols, .int .i64 z.ld] : Array Value)[i]? := by intro i; rw [hW]; go_simp
        have g0 : Grew w W := by rw [hW]; exact (((Grew.refl _).alloc _).alloc _).alloc _
        clear hW
        have hXW := hX.grew g0
        have hYW := hY.grew g0
        have hZW := hZ.grew g0
        go_wp2_with (first | (go_at_call 42; ((with_reducible refine (h1 _ ?_).mono ?_); (focus (first | (with_reducible assumption) | (with_reducible refine FS.ext ?_ _ _; with_reducible assumption) | (with_reducible refine IS.ext ?_ _ _; with_reducible assumption) | (refine hDu _ ?_; with_reducible assumption) | (refine hOu _ ?_; with_reducible assumption) | (refine hDa _ ?_; with_reducible assumption) | (refine hDb _ ?_; with_reducible assumption) | (refine hDc _ ?_; with_reducible assumption) | (refine hDd _ ?_; with_reducible assumption) | (refine FW.fs ?_ (by omega) _; with_reducible assumption) | (refine WS.fs ?_; with_reducible assumption) | (refine FW.fs ?_ (by omega) _; assumption) | omega | assumption)); rintro e w1 ⟨rfl, oa, na, rfl⟩)) | (go_at_call 42; ((with_reducible refine (h2 _ ?_).mono ?_); (focus (first | (with_reducible assumption) | (with_reducible refine FS.ext ?_ _ _; with_reducible assumption) | (with_reducible refine IS.ext ?_ _ _; with_reducible assumption) | (refine hDu _ ?_; with_reducible assumption) | (refine hOu _ ?_; with_reducible assumption) | (refine hDa _ ?_; with_reducible assumption) | (refine hDb _ ?_; with_reducible assumption) | (refine hDc _ ?_; with_reducible assumption) | (refine hDd _ ?_; with_reducible assumption) | (refine FW.fs ?_ (by omega) _; with_reducible assumption) | (refine WS.fs ?_; with_reducible assumption) | (refine FW.fs ?_ (by omega) _; assumption) | omega | assumption)); rintro e w1 ⟨rfl, ob, nb, rfl⟩)) | (go_at_call 42; ((with_reducible refine (h3 _ ?_).mono ?_); (focus (first | (with_reducible assumption) | (with_reducible refine FS.ext ?_ _ _; with_reducible assumption) | (with_reducible refine IS.ext ?_ _ _; with_reducible assumption) | (refine hDu _ ?_; with_reducible assumption) | (refine hOu _ ?_; with_reducible assumption) | (refine hDa _ ?_; with_reducible assumption) | (refine hDb _ ?_; with_reducible assumption) | (refine hDc _ ?_; with_reducible assumption) | (refine hDd _ ?_; with_reducible assumption) | (refine FW.fs ?_ (by omega) _; with_reducible assumption) | (refine WS.fs ?_; with_reducible assumption) | (refine FW.fs ?_ (by omega) _; assumption) | omega | assumption)); rintro e w1 ⟨rfl, oc, nc, rfl⟩)))
        go_ret
        exact ⟨rfl, by (show Grew _ _; repeat (first | (with_reducible exact Grew.refl _) | (with_reducible assumption) | (with_reducible exact Grew.same_o) | (with_reducible exact Grew.app_o) | (with_reducible refine Grew.ext ?_ _ _) | (with_reducible refine Grew.alloc ?_ _) | ((with_reducible refine Grew.setCell ?_ ?_ _); rotate_left; (focus (dsimp only; first | omega | (simp only [size_ext, World.size_alloc, Array.size_append]; omega)))) | (with_reducible refine Grew.drewN ?_ _) | (with_reducible refine Grew.drew ?_)))⟩
    · replace h2 := h2 _ g2
      clear g1 g2 h3
      go_enter Try.func74, Try.ntmps74
      refine seq_stop ?_
      go_wp2
      refine stop_go (fun W hW => ?_)
      have s1 : w.heap.size < W.heap.size := by rw [hW]; simp only [World.size_alloc]; omega
      have b1 : ∀ i, W.cell? ⟨w.heap.size, i, none⟩ = (#[X, .int .i64 x.off, .int .i64 x.rows, .int .i64 x.cols, .int .i64 x.ld] : Array Value)[i]? := by intro i; rw [hW]; go_simp
      have s2 : w.heap.size + 1 < W.heap.size := by rw [hW]; simp only [World.size_alloc]; omega
      have b2 : ∀ i, W.cell? ⟨w.heap.size + 1, i, none⟩ = (#[Y, .int .i64 y.off, .int .i64 y.rows, .int .i64 y.cols, .int .i64 y.ld] : Array Value)[i]? := by intro i; rw [hW]; go_simp
      have s3 : w.heap.size + 1 + 1 < W.heap.size := by rw [hW]; simp only [World.size_alloc]; omega
      have b3 : ∀ i, W.cell? ⟨w.heap.size + 1 + 1, i, none⟩ = (#[Z, .int .i64 z.off, .int .i64 z.rows, .int .i64 z.cols, .int .i64 z.ld] : Array Value)[i]? := by intro i; rw [hW]; go_simp
      have g0 : Grew w W := by rw [hW]; exact (((Grew.refl _).alloc _).alloc _).alloc _
      clear hW
      have hXW := hX.grew g0
      have hYW := hY.grew g0
      have hZW := hZ.grew g0
      go_wp2_with (first | (go_at_call 42; ((with_reducible refine (h1 _ ?_).mono ?_); (focus (first | (with_reducible assumption) | (with_reducible refine FS.ext ?_ _ _; with_reducible assumption) | (with_reducible refine IS.ext ?_ _ _; with_reducible assumption) | (refine hDu _ ?_; with_reducible assumption) | (refine hOu _ ?_; with_reducible assumption) | (refine hDa _ ?_; with_reducible assumption) | (refine hDb _ ?_; with_reducible assumption) | (refine hDc _ ?_; with_reducible assumption) | (refine hDd _ ?_; with_reducible assumption) | (refine FW.fs ?_ (by omega) _; with_reducible assumption) | (refine WS.fs ?_; with_reducible assumption) | (refine FW.fs ?_ (by omega) _; assumption) | omega | assumption)); rintro e w1 ⟨rfl, oa, na, rfl⟩)) | (go_at_call 42; ((with_reducible refine (h2 _ ?_).mono ?_); (focus (first | (with_reducible assumption) | (with_reducible refine FS.ext ?_ _ _; with_reducible assumption) | (with_reducible refine IS.ext ?_ _ _; with_reducible assumption) | (refine hDu _ ?_; with_reducible assumption) | (refine hOu _ ?_; with_reducible assumption) | (refine hDa _ ?_; with_reducible assumption) | (refine hDb _ ?_; with_reducible assumption) | (refine hDc _ ?_; with_reducible assumption) | (refine hDd _ ?_; with_reducible assumption) | (refine FW.fs ?_ (by omega) _; with_reducible assumption) | (refine WS.fs ?_; with_reducible assumption) | (refine FW.fs ?_ (by omega) _; assumption) | omega | assumption)); rintro e w1 ⟨rfl, ob, nb, rfl⟩)) | (go_at_call 42; ((with_reducible refine (h3 _ ?_).mono ?_); (focus (first | (with_reducible assumption) | (with_reducible refine FS.ext ?_ _ _; with_reducible assumption) | (with_reducible refine IS.ext ?_ _ _; with_reducible assumption) | (refine hDu _ ?_; with_reducible assumption) | (refine hOu _ ?_; with_reducible assumption) | (refine hDa _ ?_; with_reducible assumption) | (refine hDb _ ?_; with_reducible assumption) | (refine hDc _ ?_; with_reducible assumption) | (refine hDd _ ?_; with_reducible assumption) | (refine FW.fs ?_ (by omega) _; with_reducible assumption) | (refine WS.fs ?_; with_reducible assumption) | (refine FW.fs ?_ (by omega) _; assumption) | omega | assumption)); rintro e w1 ⟨rfl, oc, nc, rfl⟩)))
      go_ret
      exact ⟨rfl, by (show Grew _ _; repeat (first | (with_reducible exact Grew.refl _) | (with_reducible assumption) | (with_reducible exact Grew.same_o) | (with_reducible exact Grew.app_o) | (with_reducible refine Grew.ext ?_ _ _) | (with_reducible refine Grew.alloc ?_ _) | ((with_reducible refine Grew.setCell ?_ ?_ _); rotate_left; (focus (dsimp only; first | omega | (simp only [size_ext, World.size_alloc, Array.size_append]; omega)))) | (with_reducible refine Grew.drewN ?_ _) | (with_reducible refine Grew.drew ?_)))⟩
  · replace h1 := h1 _ g1
    clear g1 h2 h3
    go_enter Try.func74, Try.ntmps74
    refine seq_stop ?_
    go_wp2
    refine stop_go (fun W hW => ?_)
    have s1 : w.heap.size < W.heap.size := by rw [hW]; simp only [World.size_alloc]; omega
    have b1 : ∀ i, W.cell? ⟨w.heap.size, i, none⟩ = (#[X, .int .i64 x.off, .int .i64 x.rows, .int .i64 x.cols, .int .i64 x.ld] : Array Value)[i]? := by intro i; rw [hW]; go_simp
    have s2 : w.heap.size + 1 < W.heap.size := by rw [hW]; simp only [World.size_alloc]; omega
    have b2 : ∀ i, W.cell? ⟨w.heap.size + 1, i, none⟩ = (#[Y, .int .i64 y.off, .int .i64 y.rows, .int .i64 y.cols, .int .i64 y.ld] : Array Value)[i]? := by intro i; rw [hW]; go_simp
    have s3 : w.heap.size + 1 + 1 < W.heap.size := by rw [hW]; simp only [World.size_alloc]; omega
    have b3 : ∀ i, W.cell? ⟨w.heap.size + 1 + 1, i, none⟩ = (#[Z, .int .i64 z.off, .int .i64 z.rows, .int .i64 z.cols, .int .i64 z.ld] : Array Value)[i]? := by intro i; rw [hW]; go_simp
    have g0 : Grew w W := by rw [hW]; exact (((Grew.refl _).alloc _).alloc _).alloc _
    clear hW
    have hXW := hX.grew g0
    have hYW := hY.grew g0
    have hZW := hZ.grew g0
    go_wp2_with (first | (go_at_call 42; ((with_reducible refine (h1 _ ?_).mono ?_); (focus (first | (with_reducible assumption) | (with_reducible refine FS.ext ?_ _ _; with_reducible assumption) | (with_reducible refine IS.ext ?_ _ _; with_reducible assumption) | (refine hDu _ ?_; with_reducible assumption) | (refine hOu _ ?_; with_reducible assumption) | (refine hDa _ ?_; with_reducible assumption) | (refine hDb _ ?_; with_reducible assumption) | (refine hDc _ ?_; with_reducible assumption) | (refine hDd _ ?_; with_reducible assumption) | (refine FW.fs ?_ (by omega) _; with_reducible assumption) | (refine WS.fs ?_; with_reducible assumption) | (refine FW.fs ?_ (by omega) _; assumption) | omega | assumption)); rintro e w1 ⟨rfl, oa, na, rfl⟩)) | (go_at_call 42; ((with_reducible refine (h2 _ ?_).mono ?_); (focus (first | (with_reducible assumption) | (with_reducible refine FS.ext ?_ _ _; with_reducible assumption) | (with_reducible refine IS.ext ?_ _ _; with_reducible assumption) | (refine hDu _ ?_; with_reducible assumption) | (refine hOu _ ?_; with_reducible assumption) | (refine hDa _ ?_; with_reducible assumption) | (refine hDb _ ?_; with_reducible assumption) | (refine hDc _ ?_; with_reducible assumption) | (refine hDd _ ?_; with_reducible assumption) | (refine FW.fs ?_ (by omega) _; with_reducible assumption) | (refine WS.fs ?_; with_reducible assumption) | (refine FW.fs ?_ (by omega) _; assumption) | omega | assumption)); rintro e w1 ⟨rfl, ob, nb, rfl⟩)) | (go_at_call 42; ((with_reducible refine (h3 _ ?_).mono ?_); (focus (first | (with_reducible assumption) | (with_reducible refine FS.ext ?_ _ _; with_reducible assumption) | (with_reducible refine IS.ext ?_ _ _; with_reducible assumption) | (refine hDu _ ?_; with_reducible assumption) | (refine hOu _ ?_; with_reducible assumption) | (refine hDa _ ?_; with_reducible assumption) | (refine hDb _ ?_; with_reducible assumption) | (refine hDc _ ?_; with_reducible assumption) | (refine hDd _ ?_; with_reducible assumption) | (refine FW.fs ?_ (by omega) _; with_reducible assumption) | (refine WS.fs ?_; with_reducible assumption) | (refine FW.fs ?_ (by omega) _; assumption) | omega | assumption)); rintro e w1 ⟨rfl, oc, nc, rfl⟩)))
    go_ret
    exact ⟨rfl, by (show Grew _ _; repeat (first | (with_reducible exact Grew.refl _) | (with_reducible assumption) | (with_reducible exact Grew.same_o) | (with_reducible exact Grew.app_o) | (with_reducible refine Grew.ext ?_ _ _) | (with_reducible refine Grew.alloc ?_ _) | ((with_reducible refine Grew.setCell ?_ ?_ _); rotate_left; (focus (dsimp only; first | omega | (simp only [size_ext, World.size_alloc, Array.size_append]; omega)))) | (with_reducible refine Grew.drewN ?_ _) | (with_reducible refine Grew.drew ?_)))⟩
def Z2 : List Nat := List.replicate (2 * 1) 0
def X56 : List Nat := [4617315517961601024, 4618441417868443648]
def M11 : List Nat := [4625478292286210048, 4630685579355357184]
theorem hold_11 : Hold (MatM.place ⟨Z2, 0, 2, 1, 2⟩) 2 1 Z2 M11 (gemmF 4607182418800017408 0 ⟨M4d, 0, 2, 2, 2⟩ ⟨X56, 0, 2, 1, 2⟩ ⟨Z2, 0, 2, 1, 2⟩) := by
  refine ⟨rfl, fun i j hi hj => ?_, fun q hq => ?_⟩
  · obtain rfl : j = 0 := by omega
    obtain rfl | rfl : i = 0 ∨ i = 1 := by omega
    · decide +kernel
    · decide +kernel
  · obtain rfl | rfl | h4 : q = 0 ∨ q = 1 ∨ 2 ≤ q := by omega
    · exact absurd (by decide) (hq 0 0 (by decide) (by decide))
    · exact absurd (by decide) (hq 1 0 (by decide) (by decide))
    · rw [List.getD_eq_getElem?_getD, List.getD_eq_getElem?_getD, List.getElem?_eq_none (by show 2 ≤ q; exact h4), List.getElem?_eq_none (by show 2 ≤ q; exact h4)]
theorem gemm_11 (g cg bx cx bz cz : Nat) (w : World) (hF : FW w g Z2) (hX : FW w bx M4d) (hY : FW w bz X56) (n1 : bx ≠ g) (n2 : bz ≠ g) :
    Calls Try.prog 75 #[.float .f64 4607182418800017408, .agg #[.slice (some ⟨bx, 0, none⟩) 4 cx, .int .i64 0, .int .i64 2, .int .i64 2, .int .i64 2], .agg #[.slice (some ⟨bz, 0, none⟩) 2 cz, .int .i64 0, .int .i64 2, .int .i64 1, .int .i64 2], .float .f64 0, .agg #[.slice (some ⟨g, 0, none⟩) 2 cg, .int .i64 0, .int .i64 2, .int .i64 1, .int .i64 2]] w
      (fun e w' => e = .returned (.int .i64 0) ∧ But w [g] w' ∧ FW w' g M11) := by
  have h := gemm_any 4607182418800017408 4607182418800017408 0 0 ⟨M4d, 0, 2, 2, 2⟩ ⟨X56, 0, 2, 1, 2⟩ ⟨Z2, 0, 2, 1, 2⟩ bx cx bz cz g cg w (hX.fs (by decide) cx) (hY.fs (by decide) cz) hF (FW.plain hX) (FW.plain hY)
    (fun e => absurd e n1) (fun e => absurd e n2) (by simp [MatM.wf, I64]) (by simp [MatM.wf, I64]) (by simp [MatM.wf, I64]) (by decide) (by decide) (by decide) hX.lt hY.lt (by decide +kernel) (by decide +kernel)
  rw [show decide (g = bx) = false by simpa using fun e => n1 e.symm, show decide (g = bz) = false by simpa using fun e => n2 e.symm] at h
  have e1 : gemmE ⟨M4d, 0, 2, 2, 2⟩ ⟨X56, 0, 2, 1, 2⟩ ⟨Z2, 0, 2, 1, 2⟩ false false = 0 := by decide +kernel
  rw [e1] at h
  refine h.mono fun e w' hh => ?_
  obtain ⟨rfl, h1, L, h2, _, h3⟩ := hh
  refine ⟨rfl, h1, ?_⟩
  rw [← Hold.unique (h3 rfl) hold_11 (fun _ _ _ _ => rfl)]
  exact h2
set_option maxRecDepth 100000 in
set_option maxHeartbeats 4000000 in
theorem awake11 (w : World) : Calls Try.prog 73 #[] w (fun e w' => e = .returned (.bool true) ∧ ∃ o n, w' = ext w o n) := by
  have h1 : ∀ x ∈ M4, IsF x x := by decide +kernel
  have h2 : ∀ x ∈ X56, IsF x x := by decide +kernel
  have h3 : ∀ x ∈ M11, IsF x x := by decide +kernel
  have H1 := hid h1
  have H2 := hid h2
  have H3 := hid h3
  have da : decide (M11 = M11) = true := by decide +kernel
  clear h1 h2 h3
  have hd : ∀ w', Calls Try.prog 69 #[.int .i64 2, .int .i64 1, .slice none 0 0] w' (fun e w2 => ∃ v, e = .returned (.agg #[v, .int .i64 0, .int .i64 2, .int .i64 1, .int .i64 2]) ∧ WS w2 w'.heap.size v Z2 ∧ ∃ o n, w2 = ext w' o n) := fun w' => dense0_any 2 1 w' (by decide) (by decide) (by decide) (by decide)
  have hd2 : ∀ aL w', FS w' (.slice aL 2 2) X56 → Calls Try.prog 69 #[.int .i64 2, .int .i64 1, .slice aL 2 2] w' (fun e w2 => ∃ v, e = .returned (.agg #[v, .int .i64 0, .int .i64 2, .int .i64 1, .int .i64 2]) ∧ WS w2 w'.heap.size v X56 ∧ ∃ o n, w2 = ext w' o n) := fun aL w' h => by
    have h := dense_any 2 1 aL X56 w' h (by decide) (by decide) (by decide) (by decide) rfl
    have e : denseL 2 1 X56 = X56 := by decide +kernel
    rw [e] at h
    exact h
  go_enter Try.func73, Try.ntmps73
  go_wp2_with (first | (go_at_call 69; ((with_reducible refine (hd _).mono ?_); rintro e w1 ⟨v, rfl, ⟨g, cap, rfl, hg, hF, hgl⟩, hw1⟩)))
  refine name_any (fun V hV => ?_)
  have gV : Grew w1 V := by rw [← hV]; (show Grew _ _; repeat (first | (with_reducible exact Grew.refl _) | (with_reducible assumption) | (with_reducible exact Grew.same_o) | (with_reducible exact Grew.app_o) | (with_reducible refine Grew.ext ?_ _ _) | (with_reducible refine Grew.alloc ?_ _) | ((with_reducible refine Grew.setCell ?_ ?_ _); rotate_left; (focus (dsimp only; first | omega | (simp only [size_ext, World.size_alloc, Array.size_append]; omega)))) | (with_reducible refine Grew.drewN ?_ _) | (with_reducible refine Grew.drew ?_)))
  have hFV : FW V g Z2 := hF.grew gV
  have gl := hF.lt
  have cb : ∀ i, V.cell? ⟨w1.heap.size, i, none⟩ = (#[.slice (some ⟨g, 0, none⟩) Z2.length cap, .int .i64 0, .int .i64 2, .int .i64 1, .int .i64 2] : Array Value)[i]? := by subst hV; intro i; go_simp
  have kb : w1.heap.size < V.heap.size := by rw [← hV]; simp only [World.size_alloc]; omega
  have gw : Grew w V := Grew.trans hw1 gV
  have zw := (show Grew w w1 from hw1).below.size
  have cbU : ∀ w', But V [g] w' → ∀ i, w'.cell? ⟨w1.heap.size, i, none⟩ = (#[.slice (some ⟨g, 0, none⟩) Z2.length cap, .int .i64 0, .int .i64 2, .int .i64 1, .int .i64 2] : Array Value)[i]? := fun w' h i => (h.cell kb (by simp; omega)).trans (cb i)
  clear hV
  have hm : ∀ w' bx cx bz cz, Grew V w' → FW w' bx M4d → FW w' bz X56 → V.heap.size ≤ bx → V.heap.size ≤ bz → Calls Try.prog 75 #[.float .f64 4607182418800017408, .agg #[.slice (some ⟨bx, 0, none⟩) M4d.length cx, .int .i64 0, .int .i64 2, .int .i64 2, .int .i64 2], .agg #[.slice (some ⟨bz, 0, none⟩) X56.length cz, .int .i64 0, .int .i64 2, .int .i64 1, .int .i64 2], .float .f64 0, .agg #[.slice (some ⟨g, 0, none⟩) Z2.length cap, .int .i64 0, .int .i64 2, .int .i64 1, .int .i64 2]] w'
      (fun e w2 => e = .returned (.int .i64 0) ∧ But w' [g] w2 ∧ FW w2 g M11) := fun w' bx cx bz cz hg h1 h2 h3 h4 => gemm_11 g cap bx cx bz cz w' (hFV.grew hg) h1 h2 (by have := hFV.lt; omega) (by have := hFV.lt; omega)
  refine wp_region_F (But V [g]) (.step 0 4 (.alt 0 (.alt 1 (.alt 2 (.alt 3 (.alt 5 (.step 0 6 .done) .stop) .stop) .stop) (.alt 2 (.alt 1 (.alt 3 (.alt 5 (.step 0 6 .done) .stop) .stop) .stop) .stop)) (.alt 2 (.alt 0 (.alt 1 (.alt 3 (.alt 5 (.step 0 6 .done) .stop) .stop) .stop) .stop) .stop))) (by kernel_rfl) (by kernel_rfl) (fun _ _ _ _ h _ => h) ((But.refl _ _).grew ((Grew.refl _).drew)) ?_
  go_wp2_with (first | ((with_reducible refine wpF_id ?_); first | (refine wpF_take (v := ?_) rfl rfl ?_ ?_; rotate_left; (focus (intro w' hw'; go_simp; try with_reducible rfl)); simp only [Act.put, List.setIfInBounds_toArray, List.set_cons_zero, List.set_cons_succ]) | (refine wpF_alt rfl rfl (fun K hK => ?_) ?_) | (exact wpF_stop) | (refine wpF_done ?_)) | ((with_reducible refine wpF_go ?_ ?_); (focus (first | (with_reducible assumption) | exact (But.refl _ _).grew (by (show Grew _ _; repeat (first | (with_reducible exact Grew.refl _) | (with_reducible assumption) | (with_reducible exact Grew.same_o) | (with_reducible exact Grew.app_o) | (with_reducible refine Grew.ext ?_ _ _) | (with_reducible refine Grew.alloc ?_ _) | ((with_reducible refine Grew.setCell ?_ ?_ _); rotate_left; (focus (dsimp only; first | omega | (simp only [size_ext, World.size_alloc, Array.size_append]; omega)))) | (with_reducible refine Grew.drewN ?_ _) | (with_reducible refine Grew.drew ?_))))))) | ((with_reducible refine upon_id ?_); refine upon_fop rfl (by assumption) (by assumption) ?_; intro rr nn hr) | (go_at_call 69; ((with_reducible refine (dense_4 _ _ ?_).mono ?_); (focus (repeat (first | exact FS.lit M4 (by decide) H1.out 4 _ (by simp only [size_ext, World.size_alloc]) | exact FS.lit M4 (by decide) H1.out 4 _ rfl | refine FS.alloc ?_ _ | refine FS.ext ?_ _ _))); rintro e wA ⟨v2, rfl, ⟨gx, cx, rfl, hgx, hFx, hglx⟩, hwx⟩; have gx1 : Grew V wA := Grew.trans (by (show Grew _ _; repeat (first | (with_reducible exact Grew.refl _) | (with_reducible assumption) | (with_reducible exact Grew.same_o) | (with_reducible exact Grew.app_o) | (with_reducible refine Grew.ext ?_ _ _) | (with_reducible refine Grew.alloc ?_ _) | ((with_reducible refine Grew.setCell ?_ ?_ _); rotate_left; (focus (dsimp only; first | omega | (simp only [size_ext, World.size_alloc, Array.size_append]; omega)))) | (with_reducible refine Grew.drewN ?_ _) | (with_reducible refine Grew.drew ?_)))) hwx; have qx : V.heap.size ≤ gx := Nat.le_trans (Grew.below (by (show Grew _ _; repeat (first | (with_reducible exact Grew.refl _) | (with_reducible assumption) | (with_reducible exact Grew.same_o) | (with_reducible exact Grew.app_o) | (with_reducible refine Grew.ext ?_ _ _) | (with_reducible refine Grew.alloc ?_ _) | ((with_reducible refine Grew.setCell ?_ ?_ _); rotate_left; (focus (dsimp only; first | omega | (simp only [size_ext, World.size_alloc, Array.size_append]; omega)))) | (with_reducible refine Grew.drewN ?_ _) | (with_reducible refine Grew.drew ?_))))).size hgx)) | (go_at_call 69; ((with_reducible refine (hd2 _ _ ?_).mono ?_); (focus (first | ((repeat (first | exact FS.lit X56 (by decide) H2.out 2 _ (by simp only [size_ext, World.size_alloc]) | exact FS.lit X56 (by decide) H2.out 2 _ rfl | refine FS.alloc ?_ _ | refine FS.ext ?_ _ _)); done) | (refine FS.grew ?_ hwx; (repeat (first | exact FS.lit X56 (by decide) H2.out 2 _ (by simp only [size_ext, World.size_alloc]) | exact FS.lit X56 (by decide) H2.out 2 _ rfl | refine FS.alloc ?_ _ | refine FS.ext ?_ _ _)); done))); rintro e wB ⟨v3, rfl, ⟨gy, cy, rfl, hgy, hFy, hgly⟩, hwy⟩; have gV2 : Grew V wB := Grew.trans (by (show Grew _ _; repeat (first | (with_reducible exact Grew.refl _) | (with_reducible assumption) | (with_reducible exact Grew.same_o) | (with_reducible exact Grew.app_o) | (with_reducible refine Grew.ext ?_ _ _) | (with_reducible refine Grew.alloc ?_ _) | ((with_reducible refine Grew.setCell ?_ ?_ _); rotate_left; (focus (dsimp only; first | omega | (simp only [size_ext, World.size_alloc, Array.size_append]; omega)))) | (with_reducible refine Grew.drewN ?_ _) | (with_reducible refine Grew.drew ?_)))) hwy; have qy : V.heap.size ≤ gy := Nat.le_trans (Grew.below (by (show Grew _ _; repeat (first | (with_reducible exact Grew.refl _) | (with_reducible assumption) | (with_reducible exact Grew.same_o) | (with_reducible exact Grew.app_o) | (with_reducible refine Grew.ext ?_ _ _) | (with_reducible refine Grew.alloc ?_ _) | ((with_reducible refine Grew.setCell ?_ ?_ _); rotate_left; (focus (dsimp only; first | omega | (simp only [size_ext, World.size_alloc, Array.size_append]; omega)))) | (with_reducible refine Grew.drewN ?_ _) | (with_reducible refine Grew.drew ?_))))).size hgy; have fx : FW wB gx M4d := by first | exact hFx.grew hwy | exact (hFx.alloc _).grew hwy)) | (go_at_call 75; ((with_reducible refine (hm _ gx cx gy cy gV2 fx hFy qx qy).mono ?_); rintro e w4 ⟨rfl, hB, hF2⟩; have hBV : But V [g] w4 := ((But.refl V [g]).grew gV2).trans hB (fun _ hb => .inl hb); have cb4 := cbU _ hBV; have kb4 : w1.heap.size < w4.heap.size := by have := hBV.size; omega)))
  all_goals (
    have hfs : FS w4 (.slice (some ⟨g, 0, none⟩) Z2.length cap) M11 := hF2.fs (by decide) cap
    go_wp2_with (first | ((with_reducible refine wpF_id ?_); first | (refine wpF_take (v := ?_) rfl rfl ?_ ?_; rotate_left; (focus (intro w' hw'; go_simp; try with_reducible rfl)); simp only [Act.put, List.setIfInBounds_toArray, List.set_cons_zero, List.set_cons_succ]) | (refine wpF_alt rfl rfl (fun K hK => ?_) ?_) | (exact wpF_stop) | (refine wpF_done ?_)) | ((with_reducible refine wpF_go ?_ ?_); (focus (first | (with_reducible assumption) | exact (But.refl _ _).grew (by (show Grew _ _; repeat (first | (with_reducible exact Grew.refl _) | (with_reducible assumption) | (with_reducible exact Grew.same_o) | (with_reducible exact Grew.app_o) | (with_reducible refine Grew.ext ?_ _ _) | (with_reducible refine Grew.alloc ?_ _) | ((with_reducible refine Grew.setCell ?_ ?_ _); rotate_left; (focus (dsimp only; first | omega | (simp only [size_ext, World.size_alloc, Array.size_append]; omega)))) | (with_reducible refine Grew.drewN ?_ _) | (with_reducible refine Grew.drew ?_))))))) | ((with_reducible refine upon_id ?_); refine upon_fop rfl (by assumption) (by assumption) ?_; intro rr nn hr) | (go_at_call 47; ((with_reducible refine (all_any _ _ M11 M11 _ ?_ ?_).mono ?_); (focus (exact hfs.alloc _)); (focus (repeat (first | exact FS.lit M11 (by decide) H3.out 2 _ (by simp only [size_ext, World.size_alloc]) | exact FS.lit M11 (by decide) H3.out 2 _ rfl | refine FS.alloc ?_ _ | refine FS.ext ?_ _ _))); rintro e w5 ⟨rfl, hw5⟩)))
    go_ret
    exact ⟨rfl, (hBV.grew0 gw (by intro k hk; simp at hk; omega)).trans (((Grew.refl _).alloc _).trans hw5)⟩)
end Go.Proofs.Ytcmggfpcbijcjaa
end
section
/-
  GemmWhole: matrices and tables of small whole numbers, and what the calls hand back of them.
-/
set_option linter.unusedSimpArgs false
set_option linter.unusedVariables false
open Go Go.RowKit Sedge
namespace Go.Proofs.Ytcmggfpcbijcjaa
/-- A matrix' list, of whole numbers f, within B. -/
def MI (L : List Nat) (r c : Nat) (f : Nat → Nat → Int) (B : Nat) : Prop := L.length = r * c ∧ ∀ i j, i < r → j < c → WI (L.getD (i + j * r) 0) (f i j) ∧ (f i j).natAbs ≤ B
/-- A table's list. -/
def TI (T : List Nat) (r c : Nat) (f : Nat → Nat → Int) (B : Nat) : Prop := T.length = r * c ∧ ∀ i j, i < r → j < c → WI (T.getD (i * c + j) 0) (f i j) ∧ (f i j).natAbs ≤ B
theorem W50.mi {L : List Nat} {r c : Nat} (h : W50 L) (hl : L.length = r * c) : ∃ f, MI L r c f 50 := by
  have hp : ∀ i j : Nat, ∃ z : Int, i < r → j < c → WI (L.getD (i + j * r) 0) z ∧ z.natAbs ≤ 50 := fun i j => by
    by_cases hi : i < r
    · by_cases hj : j < c
      · obtain ⟨z, h1, h2⟩ := h (i + j * r) (by rw [hl]; exact place_lt2 hi hj)
        exact ⟨z, fun _ _ => ⟨h1, h2⟩⟩
      · exact ⟨0, fun _ h => absurd h hj⟩
    · exact ⟨0, fun h => absurd h hi⟩
  exact ⟨fun i j => Classical.choose (hp i j), hl, fun i j hi hj => Classical.choose_spec (hp i j) hi hj⟩
theorem num_dense {L : List Nat} {r c i j : Nat} : MatM.num ⟨L, 0, r, c, r⟩ i j = L.getD (i + j * r) 0 := by
  unfold MatM.num; rw [matd_place]
def mmul (f g : Nat → Nat → Int) (m : Nat) : Nat → Nat → Int := fun i j => sumI (fun k => f i k * g k j) m
theorem MI.prod {LA LB L : List Nat} {r m c A B : Nat} {f g : Nat → Nat → Int} (hA : MI LA r m f A) (hB : MI LB m c g B) (hl : L.length = r * c)
    (h : ∀ i j, i < r → j < c → L.getD (i + j * r) 0 = mulTo 4607182418800017408 (MatM.num ⟨LA, 0, r, m, r⟩) (fun k => MatM.num ⟨LB, 0, m, c, m⟩ k j) 0 i m) (hn : m * (A * B) < 2 ^ 53) (hb : B < 2 ^ 53) : MI L r c (mmul f g m) (m * (A * B)) := by
  refine ⟨hl, fun i j hi hj => ⟨?_, ?_⟩⟩
  · rw [h i j hi hj]
    exact wprod (fun k hk => by rw [num_dense]; exact hA.2 i k hi hk) (fun k hk => by rw [num_dense]; exact hB.2 k j hk hj) hn hb
  · refine sumI_le m fun k hk => ?_
    rw [Int.natAbs_mul]
    exact Nat.mul_le_mul (hA.2 i k hi hk).2 (hB.2 k j hk hj).2
theorem MI.tab {L : List Nat} {r c B : Nat} {f : Nat → Nat → Int} (h : MI L r c f B) : TI (MatM.tab ⟨L, 0, r, c, r⟩) r c f B := by
  have hh := MatM.tab_hold ⟨L, 0, r, c, r⟩
  refine ⟨by rw [MatM.tab_length]; simp, fun i j hi hj => ?_⟩
  have hg := hh.get i j (by simpa using hi) (by simpa using hj)
  simp only [Int.toNat_natCast] at hg
  rw [hg, num_dense]
  exact h.2 i j hi hj
theorem TI.turn {T t : List Nat} {R C B : Nat} {f : Nat → Nat → Int} (h : TI T R C f B) (hl : t.length = C * R) (ht : ∀ i j, i < C → j < R → t.getD (i * R + j) 0 = T.getD (j * C + i) 0) : TI t C R (fun i j => f j i) B :=
  ⟨hl, fun i j hi hj => by rw [ht i j hi hj]; exact h.2 j i hj hi⟩
theorem TI.dense {T : List Nat} {r c B : Nat} {f : Nat → Nat → Int} (h : TI T r c f B) : MI (denseL r c T) r c f B :=
  ⟨by simp [denseL, denseTo], fun i j hi hj => by rw [dense_num h.1 hi hj]; exact h.2 i j hi hj⟩
theorem TI.same {T U : List Nat} {r c A B : Nat} {f g : Nat → Nat → Int} (h : TI T r c f A) (k : TI U r c g B) (hfg : ∀ i j, i < r → j < c → f i j = g i j) : ∀ n, n < T.length → feq (T.getD n 0) (U.getD n 0) = true := fun n hn => by
  rw [h.1] at hn
  have hc : 0 < c := Nat.pos_of_ne_zero fun e => by subst e; omega
  have hi : n / c < r := by rw [Nat.div_lt_iff_lt_mul hc]; exact hn
  have hj : n % c < c := Nat.mod_lt _ hc
  have e : n / c * c + n % c = n := by rw [Nat.mul_comm]; exact Nat.div_add_mod n c
  have h1 := (h.2 _ _ hi hj).1
  have h2 := (k.2 _ _ hi hj).1
  rw [e] at h1 h2
  rw [h1.feq h2, decide_eq_true (hfg _ _ hi hj)]
section
variable {L T : List Nat} {r c B g : Nat} {f : Nat → Nat → Int} {u : World}
theorem MI.wf (h : MI L r c f B) (hr : 1 ≤ r ∧ r ≤ 6) (hc : 1 ≤ c ∧ c ≤ 6) : L.length ≤ 36 ∧ MatM.good ⟨L, 0, r, c, r⟩ = true ∧ MatM.wf ⟨L, 0, r, c, r⟩ := by
  have h1 : r * c ≤ 6 * 6 := Nat.mul_le_mul hr.2 hc.2
  refine ⟨by rw [h.1]; exact h1, matd_good h.1 hr.1 hc.1, by simp [MatM.wf, I64]; omega⟩
theorem MI.fs (h : MI L r c f B) (hr : 1 ≤ r ∧ r ≤ 6) (hc : 1 ≤ c ∧ c ≤ 6) (hF : FW u g L) (cap : Nat) : FS u (.slice (some ⟨g, 0, none⟩) (r * c) cap) L := by
  have := hF.fs (by have := (h.wf hr hc).1; omega) cap
  rw [h.1] at this; exact this
theorem good_mi (h : MI L r c f B) (hr : 1 ≤ r ∧ r ≤ 6) (hc : 1 ≤ c ∧ c ≤ 6) (hF : FW u g L) (cap : Nat) : Calls Try.prog 46 #[.agg #[.slice (some ⟨g, 0, none⟩) (r * c) cap, .int .i64 0, .int .i64 r, .int .i64 c, .int .i64 r]] u (fun e w2 => e = .returned (.bool true) ∧ ∃ o n, w2 = ext u o n) := by
  have := rgood_any ⟨L, 0, r, c, r⟩ _ u (h.fs hr hc hF cap) (h.wf hr hc).2.2
  rw [(h.wf hr hc).2.1] at this; exact this
theorem great_mi (h : MI L r c f B) (hr : 1 ≤ r ∧ r ≤ 6) (hc : 1 ≤ c ∧ c ≤ 6) : MatM.great ⟨L, 0, r, c, r⟩ = false := by
  have := (h.wf hr hc).1
  simp [MatM.great]; omega
theorem great42_mi (h : MI L r c f B) (hr : 1 ≤ r ∧ r ≤ 6) (hc : 1 ≤ c ∧ c ≤ 6) (hF : FW u g L) (cap : Nat) : Calls Try.prog 42 #[.agg #[.slice (some ⟨g, 0, none⟩) (r * c) cap, .int .i64 0, .int .i64 r, .int .i64 c, .int .i64 r]] u (fun e w2 => e = .returned (.bool false) ∧ ∃ o n, w2 = ext u o n) := by
  have := great_any ⟨L, 0, r, c, r⟩ _ u (h.fs hr hc hF cap)
  rw [great_mi h hr hc] at this; exact this
theorem of_mi (h : MI L r c f B) (hr : 1 ≤ r ∧ r ≤ 6) (hc : 1 ≤ c ∧ c ≤ 6) (hF : FW u g L) (cap : Nat) : Calls Try.prog 48 #[.agg #[.slice (some ⟨g, 0, none⟩) (r * c) cap, .int .i64 0, .int .i64 r, .int .i64 c, .int .i64 r]] u (fun e w2 => ∃ k c2 T, e = .returned (.agg #[.int .i64 r, .int .i64 c, .slice (some ⟨k, 0, none⟩) (r * c) c2]) ∧ u.heap.size ≤ k ∧ FW w2 k T ∧ TI T r c f B ∧ ∃ o n, w2 = ext u o n) := by
  have h1 := (h.wf hr hc).1
  refine (rof_any ⟨L, 0, r, c, r⟩ _ u (h.fs hr hc hF cap) (h.wf hr hc).2.1 (by show (r : Int) ≤ 1000; omega) (by show (c : Int) ≤ 1000; omega) (by show L.length ≤ _; omega) (h.wf hr hc).2.2).mono fun e w2 hh => ?_
  obtain ⟨v, rfl, ⟨k, c2, rfl, hk, hF2, _⟩, hw⟩ := hh
  have ht := h.tab
  refine ⟨k, c2, _, ?_, hk, hF2, ht, hw⟩
  rw [ht.1]
theorem TI.fs (h : TI T r c f B) (hr : 1 ≤ r ∧ r ≤ 6) (hc : 1 ≤ c ∧ c ≤ 6) (hF : FW u g T) (cap : Nat) : FS u (.slice (some ⟨g, 0, none⟩) (r * c) cap) T := by
  have h1 : r * c ≤ 6 * 6 := Nat.mul_le_mul hr.2 hc.2
  have := hF.fs (by rw [h.1]; omega) cap
  rw [h.1] at this; exact this
theorem turn_ti (h : TI T r c f B) (hr : 1 ≤ r ∧ r ≤ 6) (hc : 1 ≤ c ∧ c ≤ 6) (hF : FW u g T) (cap : Nat) : Calls Try.prog 88 #[.agg #[.int .i64 r, .int .i64 c, .slice (some ⟨g, 0, none⟩) (r * c) cap]] u (fun e w2 => ∃ k t, e = .returned (.agg #[.int .i64 c, .int .i64 r, .slice (some ⟨k, 0, none⟩) (c * r) (c * r)]) ∧ u.heap.size ≤ k ∧ FW w2 k t ∧ TI t c r (fun i j => f j i) B ∧ ∃ o n, w2 = ext u o n) := by
  refine (rturn_any r c T (fun i j => T.getD (i * c + j) 0) _ u (h.fs hr hc hF cap) h.1 (fun _ _ _ _ => rfl) (by omega) (by omega)).mono fun e w2 hh => ?_
  obtain ⟨k, t, h1, h2, h3, h4, h5, h6⟩ := hh
  exact ⟨k, t, h1, h2, h3, h.turn h4 h5, h6⟩
theorem dense_ti (h : TI T r c f B) (hr : 1 ≤ r ∧ r ≤ 6) (hc : 1 ≤ c ∧ c ≤ 6) (hF : FW u g T) : Calls Try.prog 69 #[.int .i64 r, .int .i64 c, .slice (some ⟨g, 0, none⟩) (r * c) (r * c)] u (fun e w2 => ∃ k c2 L, e = .returned (.agg #[.slice (some ⟨k, 0, none⟩) (r * c) c2, .int .i64 0, .int .i64 r, .int .i64 c, .int .i64 r]) ∧ u.heap.size ≤ k ∧ FW w2 k L ∧ MI L r c f B ∧ ∃ o n, w2 = ext u o n) := by
  have hs := h.fs hr hc hF (r * c)
  rw [← h.1] at hs
  have hd := dense_cap r c T.length _ T u hs (by omega) (by omega) hr.1 hc.1 h.1 (Nat.le_refl _)
  rw [h.1] at hd
  refine hd.mono fun e w2 hh => ?_
  obtain ⟨v, rfl, ⟨k, c2, rfl, hk, hF2, _⟩, hw⟩ := hh
  have hm := h.dense
  refine ⟨k, c2, _, ?_, hk, hF2, hm, hw⟩
  rw [hm.1]
end
theorem prod_mi {LA LB : List Nat} {r m c A B : Nat} {f g : Nat → Nat → Int} {ga gb ca cb q : Nat} {u : World} (hA : MI LA r m f A) (hB : MI LB m c g B) (hr : 1 ≤ r ∧ r ≤ 6) (hm : 1 ≤ m ∧ m ≤ 6) (hc : 1 ≤ c ∧ c ≤ 6) (hn : 6 * (A * B) < 2 ^ 53) (hb : B < 2 ^ 53) (FA : FW u ga LA) (FB : FW u gb LB)
    (hq : Box u q #[.slice (some ⟨ga, 0, none⟩) (r * m) ca, .int .i64 0, .int .i64 r, .int .i64 m, .int .i64 r, .slice (some ⟨gb, 0, none⟩) (m * c) cb, .int .i64 0, .int .i64 m, .int .i64 c, .int .i64 m]) :
    Calls Try.prog 87 #[.slice (some ⟨q, 0, none⟩) 2 2] u (fun e w' => ∃ k L, e = .returned (.tuple #[.agg #[.slice (some ⟨k, 0, none⟩) (r * c) (r * c), .int .i64 0, .int .i64 r, .int .i64 c, .int .i64 r], .int .i64 0]) ∧ u.heap.size ≤ k ∧ FW w' k L ∧ MI L r c (mmul f g m) (6 * (A * B)) ∧ ∃ o n, w' = ext u o n) := by
  have h1 : m * (A * B) ≤ 6 * (A * B) := Nat.mul_le_mul_right _ hm.2
  refine (prod_ok r m c LA LB (by omega) hr.1 (by omega) hm.1 (by omega) hc.1 ga ca gb cb q u FA FB hA.1 hB.1 hq).mono fun e w' hh => ?_
  obtain ⟨k, L, e1, e2, e3, e4, e5, e6⟩ := hh
  have hp := hA.prod hB e4 e5 (by omega) hb
  exact ⟨k, L, e1, e2, e3, ⟨hp.1, fun i j hi hj => ⟨(hp.2 i j hi hj).1, Nat.le_trans (hp.2 i j hi hj).2 h1⟩⟩, e6⟩
theorem rof_mi {L : List Nat} {r c B g : Nat} {f : Nat → Nat → Int} {u : World} (h : MI L r c f B) (hr : 1 ≤ r ∧ r ≤ 6) (hc : 1 ≤ c ∧ c ≤ 6) (hF : FW u g L) (cap : Nat) :
    Calls Try.prog 48 #[.agg #[.slice (some ⟨g, 0, none⟩) (r * c) cap, .int .i64 0, .int .i64 r, .int .i64 c, .int .i64 r]] u (fun e w2 => ∃ v, e = .returned (.agg #[.int .i64 r, .int .i64 c, v]) ∧ FS w2 v (MatM.tab ⟨L, 0, r, c, r⟩) ∧ ∃ o n, w2 = ext u o n) := by
  have h1 := (h.wf hr hc).1
  refine (rof_any ⟨L, 0, r, c, r⟩ _ u (h.fs hr hc hF cap) (h.wf hr hc).2.1 (by show (r : Int) ≤ 1000; omega) (by show (c : Int) ≤ 1000; omega) (by show L.length ≤ _; omega) (h.wf hr hc).2.2).mono fun e w2 hh => ?_
  obtain ⟨v, rfl, hv, hw⟩ := hh
  exact ⟨v, rfl, hv.fs, hw⟩
theorem equal_mi {X Y : List Nat} {r c A B gx gy cx cy : Nat} {f g : Nat → Nat → Int} {u : World} (hX : MI X r c f A) (hY : MI Y r c g B) (hr : 1 ≤ r ∧ r ≤ 6) (hc : 1 ≤ c ∧ c ≤ 6) (FX : FW u gx X) (FY : FW u gy Y) (hfg : ∀ i j, i < r → j < c → f i j = g i j) :
    Calls Try.prog 89 #[.agg #[.slice (some ⟨gx, 0, none⟩) (r * c) cx, .int .i64 0, .int .i64 r, .int .i64 c, .int .i64 r], .agg #[.slice (some ⟨gy, 0, none⟩) (r * c) cy, .int .i64 0, .int .i64 r, .int .i64 c, .int .i64 r]] u (fun e w' => e = .returned (.bool true) ∧ ∃ o n, w' = ext u o n) :=
  equal_ok _ _ _ _ _ _ 0 r c r 0 c r (MatM.tab ⟨X, 0, r, c, r⟩) (MatM.tab ⟨Y, 0, r, c, r⟩) u
    (fun w' h => good_mi hX hr hc (FX.grew h) cx) (fun w' h => good_mi hY hr hc (FY.grew h) cy)
    (fun w' h => rof_mi hX hr hc (FX.grew h) cx) (fun w' h => rof_mi hY hr hc (FY.grew h) cy)
    (by rw [hX.tab.1, hY.tab.1]) (TI.same hX.tab hY.tab hfg)
/-- Two tables alike. -/
theorem same_ti {T U : List Nat} {r c A B gt gu ct cu : Nat} {f g : Nat → Nat → Int} {u : World} (hT : TI T r c f A) (hU : TI U r c g B) (hr : 1 ≤ r ∧ r ≤ 6) (hc : 1 ≤ c ∧ c ≤ 6) (FT : FW u gt T) (FU : FW u gu U) (hfg : ∀ i j, i < r → j < c → f i j = g i j) :
    Calls Try.prog 90 #[.slice (some ⟨gt, 0, none⟩) (r * c) ct, .slice (some ⟨gu, 0, none⟩) (r * c) cu] u (fun e w' => e = .returned (.bool true) ∧ ∃ o n, w' = ext u o n) :=
  feqs_ok _ _ T U u (hT.fs hr hc FT ct) (hU.fs hr hc FU cu) (by rw [hT.1, hU.1]) (TI.same hT hU hfg)
/-- The law's great, of three. -/
theorem great3_mi {X Y Z : List Nat} {r1 c1 r2 c2 r3 c3 A B C gx gy gz cx cy cz : Nat} {f g h : Nat → Nat → Int} {u : World} (hX : MI X r1 c1 f A) (hY : MI Y r2 c2 g B) (hZ : MI Z r3 c3 h C) (h1 : 1 ≤ r1 ∧ r1 ≤ 6) (h2 : 1 ≤ c1 ∧ c1 ≤ 6) (h3 : 1 ≤ r2 ∧ r2 ≤ 6) (h4 : 1 ≤ c2 ∧ c2 ≤ 6) (h5 : 1 ≤ r3 ∧ r3 ≤ 6) (h6 : 1 ≤ c3 ∧ c3 ≤ 6) (FX : FW u gx X) (FY : FW u gy Y) (FZ : FW u gz Z) :
    Calls Try.prog 74 #[.agg #[.slice (some ⟨gx, 0, none⟩) (r1 * c1) cx, .int .i64 0, .int .i64 r1, .int .i64 c1, .int .i64 r1], .agg #[.slice (some ⟨gy, 0, none⟩) (r2 * c2) cy, .int .i64 0, .int .i64 r2, .int .i64 c2, .int .i64 r2], .agg #[.slice (some ⟨gz, 0, none⟩) (r3 * c3) cz, .int .i64 0, .int .i64 r3, .int .i64 c3, .int .i64 r3]] u (fun e w' => e = .returned (.bool false) ∧ ∃ o n, w' = ext u o n) := by
  have h := great11_any ⟨X, 0, r1, c1, r1⟩ ⟨Y, 0, r2, c2, r2⟩ ⟨Z, 0, r3, c3, r3⟩ _ _ _ u (hX.fs h1 h2 FX cx) (hY.fs h3 h4 FY cy) (hZ.fs h5 h6 FZ cz)
  rw [great_mi hX h1 h2, great_mi hY h3 h4, great_mi hZ h5 h6] at h
  exact h
end Go.Proofs.Ytcmggfpcbijcjaa
end
