/-
  Texts laid one behind the other (a claim has at most 60 files): Vec2, Meet, Mk.
-/
import Derived.LaidEqlPtr
import Derived.Deep.CutBlock
import Derived.Deep.DeepCutAuto
import Derived.Test.YtcmggfpcbijcjaaQEquilScales1
import Derived.Test.YtcmggfpcbijcjaaQEquilScales2
import Derived.Test.YtcmggfpcbijcjaaQEquilScales3
section
/-
  Contracts: straightedgeref03.List; move.meet, move.Pair, straightedgeref04.Pair.
-/
set_option linter.unusedSimpArgs false
set_option linter.unusedVariables false
open Go Go.RowKit Sedge
namespace Go.Proofs.Ytcmggfpcbijcjaa
theorem some_lt' {w : World} {p : Nat} {o : Obj} (h : w.heap[p]? = some o) : p < w.heap.size := (Array.getElem?_eq_some_iff.1 h).1
theorem info22 : ∃ j, Try.prog.info? 22 = some j ∧ j.size ≠ 0 := by
  have h := finfo.info
  cases hj : Try.prog.info? 22 with
  | none => rw [hj] at h; cases h
  | some j => rw [hj] at h; simp at h; exact ⟨j, rfl, by omega⟩
theorem und142 : Try.prog.underlying 142 = some (.pointer 22) := by kernel_rfl
@[go_sem] theorem eql_same (w : World) (a : Addr) : (binOp .eql 142 (.pointer (some a)) (.pointer (some a))).run Try.prog w = .ok (.bool true) w := by
  obtain ⟨j, hj, _⟩ := info22
  exact run_eql_ptr_same w a und142 hj
@[go_sem] theorem neq_same (w : World) (a : Addr) : (binOp .neq 142 (.pointer (some a)) (.pointer (some a))).run Try.prog w = .ok (.bool false) w := by
  obtain ⟨j, hj, _⟩ := info22
  have h : ∀ d : Nat, (Op.equalIn (d + 1) 142 (.pointer (some a)) (.pointer (some a))).run Try.prog w = .ok true w := fun d => by
    simp [Op.equalIn, run_underlying und142, sizeOf, typeInfo, hj, run_sameAddr_same]
  simp only [binOp]
  simp [Op.equal, Op.maxDepth, h 9999]
/-- Block b is a row of cells, nothing of it frozen. -/
def Plain (w : World) (b : Nat) : Prop := ∃ c e, w.heap[b]? = some (.cells c e (0, 0))
theorem FW.plain {w : World} {b : Nat} {ws : List Nat} (h : FW w b ws) : Plain w b := by obtain ⟨c, e, h, _⟩ := h; exact ⟨c, e, h⟩
theorem Plain.grew {w w' : World} {b : Nat} (h : Plain w b) (g : Grew w w') : Plain w' b := by
  obtain ⟨c, e, h⟩ := h; exact ⟨c, e, by rw [g.below.block b (some_lt' h)]; exact h⟩
theorem eql_other {w : World} {a b i j : Nat} (ha : Plain w a) (hb : Plain w b) (hne : a ≠ b) : (binOp .eql 142 (.pointer (some ⟨a, i, none⟩)) (.pointer (some ⟨b, j, none⟩))).run Try.prog w = .ok (.bool false) w := by
  obtain ⟨t, hj, hs⟩ := info22
  obtain ⟨ca, ta, ha⟩ := ha
  obtain ⟨cb, tb, hb⟩ := hb
  exact run_eql_ptr_other w und142 hj hs (by intro e; cases e; exact hne rfl) ha hb
theorem neq_other {w : World} {a b i j : Nat} (ha : Plain w a) (hb : Plain w b) (hne : a ≠ b) : (binOp .neq 142 (.pointer (some ⟨a, i, none⟩)) (.pointer (some ⟨b, j, none⟩))).run Try.prog w = .ok (.bool true) w := by
  obtain ⟨t, hj, hs⟩ := info22
  obtain ⟨ca, ta, ha⟩ := ha
  obtain ⟨cb, tb, hb⟩ := hb
  have h : ∀ d : Nat, (Op.equalIn (d + 1) 142 (.pointer (some ⟨a, i, none⟩)) (.pointer (some ⟨b, j, none⟩))).run Try.prog w = .ok false w := fun d => by
    simp [Op.equalIn, run_underlying und142, sizeOf, typeInfo, hj, hs, run_sameAddr_other w (a := ⟨a, i, none⟩) (b := ⟨b, j, none⟩) (by intro e; cases e; exact hne rfl) ha hb]
  simp only [binOp]
  simp [Op.equal, Op.maxDepth, h 9999]
def listTo (x : VecM) (k : Nat) : List Nat := (List.range k).map x.num
theorem listTo_succ (x : VecM) (k : Nat) : listTo x (k + 1) = listTo x k ++ [x.num k] := by unfold listTo; rw [List.range_succ, List.map_append]; rfl
set_option maxRecDepth 100000 in
set_option maxHeartbeats 1000000 in
/-- straightedgeref03.List. -/
theorem list_any (x : VecM) (D : Value) (w : World) (hD : FS w D x.ws) (hx : x.right = true) (hwf : x.wf) (hl : x.ws.length ≤ 1000000) :
   Calls Try.prog 61 #[.agg #[D, .int .i64 x.off, .int .i64 x.n, .int .i64 x.inc]] w
     (fun e w' => ∃ v, e = .returned v ∧ FS w' v x.list ∧ ∃ o n, w' = ext w o n) := by
  have hn := VecM.right_n hx
  have hn2 := hwf.2.1.2
  have hnl : x.n ≤ 1000000 := by
    rcases Int.lt_or_le 0 x.n with h | h
    · have h1 := VecM.right_place hx (i := (x.n - 1).toNat) (by omega)
      have h2 : ((x.n - 1).toNat : Int) * 1 ≤ ((x.n - 1).toNat : Int) * x.inc := Int.mul_le_mul_of_nonneg_left (by omega) (by omega)
      omega
    · omega
  have Hx := hid hx
  have Hn := hid hn
  have Hn2 := hid hn2
  have Hnl := hid hnl
  clear hx hn hwf hn2 hnl
  go_enter Try.func61, Try.ntmps61
  refine seq_stop ?_
  go_wp2
  refine stop_go (fun W hW => ?_)
  have s1 : w.heap.size < W.heap.size := by rw [hW]; simp only [World.size_alloc]; omega
  have b1 : ∀ i, W.cell? ⟨w.heap.size, i, none⟩ = (#[D, .int .i64 x.off, .int .i64 x.n, .int .i64 x.inc] : Array Value)[i]? := by intro i; rw [hW]; go_simp
  have g0 : Grew w W := by rw [hW]; exact (Grew.refl _).alloc _
  clear hW
  have hDW : FS W D x.ws := hD.grew g0
  go_wp2
  go_loopw [3, 4] (fun v c wr => ∃ (i : Nat) (o : Array Obj) (n : Nat), (i : Int) ≤ x.n ∧ c = .int .i64 i ∧ wr = ext W o n ∧ OwnF 22 wr W.heap.size v (listTo x i)) (fun _ c _ => x.n.toNat - (intOf c).toNat)
  case atStart => exact ⟨0, #[], _, Hn.out.1, rfl, ext_zero.symm, by simpa [listTo] using OwnF.nil _ _ _⟩
  case round =>
    obtain ⟨i, o2, n2, hi, rfl, hwr, hown⟩ := hrel
    subst hwr
    by_cases hlt : (i : Int) < x.n
    · have hp := VecM.right_place Hx.out hlt
      have hnl := Hnl.out
      have hN := Hn.out
      have h2 : IntKind.i64.wrap (i * x.inc) = i * x.inc := IntWalk.i64_in _ (by omega)
      have h3 : IntKind.i64.wrap (x.off + i * x.inc) = x.off + i * x.inc := IntWalk.i64_in _ (by omega)
      obtain ⟨blk, o, cap', rfl, hblk, hc⟩ := hDW.open (by omega)
      obtain ⟨b, hb, hf⟩ := hc (x.place i) (by unfold VecM.place; omega)
      unfold VecM.place at hb
      have hf' : IsF b (x.num i) := hf
      have hll : (listTo x i).length = i := by simp [listTo]
      clear hc
      go_wp2_with (at_builtin; refine append1_f finfo (((Grew.refl W).ext _ _)) hown hf' (by rw [hll]; omega) _ _ rfl rfl rfl (by simp only [size_ext]) rfl ?_; intro v oo nn ho hn)
      go_roundw
      case rel => exact ⟨i + 1, oo, nn, by omega, by go_num, rfl, by rw [listTo_succ]; exact ho⟩
      case measure => simp [intOf]; omega
    · have e : x.n.toNat = i := by have := Hn.out; omega
      have hown' := hown
      rw [show listTo x i = x.list by unfold listTo VecM.list; rw [e]] at hown'
      have hfs := hown'.fs (by rw [VecM.list_length]; have := Hnl.out; omega)
      go_wp2
      go_ret
      exact ⟨_, rfl, hfs, by (show Grew _ _; repeat (first | (with_reducible exact Grew.refl _) | (with_reducible assumption) | (with_reducible exact Grew.same_o) | (with_reducible exact Grew.app_o) | (with_reducible refine Grew.ext ?_ _ _) | (with_reducible refine Grew.alloc ?_ _) | ((with_reducible refine Grew.setCell ?_ ?_ _); rotate_left; (focus (dsimp only; first | omega | (simp only [size_ext, World.size_alloc, Array.size_append]; omega)))) | (with_reducible refine Grew.drewN ?_ _) | (with_reducible refine Grew.drew ?_)))⟩
theorem VecM.right_nle {x : VecM} (hx : x.right = true) (hl : x.ws.length ≤ 1000000) : x.n ≤ 1000000 := by
  have hn := VecM.right_n hx
  rcases Int.lt_or_le 0 x.n with h | h
  · have h1 := VecM.right_place hx (i := (x.n - 1).toNat) (by omega)
    have h2 : ((x.n - 1).toNat : Int) * 1 ≤ ((x.n - 1).toNat : Int) * x.inc := Int.mul_le_mul_of_nonneg_left (by omega) (by omega)
    omega
  · omega
theorem meets_n0 (x y : VecM) (h : x.n = 0) : meetsB x y = false := by unfold meetsB meetsTo; rw [h]; rfl
set_option maxRecDepth 100000 in
set_option maxHeartbeats 1000000 in
/-- move.meet. -/
theorem meet_any (x y : VecM) (a b ca cb : Nat) (w : World) (hA : FS w (.slice (some ⟨a, 0, none⟩) x.ws.length ca) x.ws) (hB : FS w (.slice (some ⟨b, 0, none⟩) y.ws.length cb) y.ws) (hPa : Plain w a) (hPb : Plain w b) (hx : x.right = true) (hy : y.right = true) (hwx : x.wf) (hwy : y.wf) (hn : y.n = x.n) (hlx : x.ws.length ≤ 1000000) (hly : y.ws.length ≤ 1000000) :
   Calls Try.prog 142 #[.agg #[.slice (some ⟨a, 0, none⟩) x.ws.length ca, .int .i64 x.off, .int .i64 x.n, .int .i64 x.inc], .agg #[.slice (some ⟨b, 0, none⟩) y.ws.length cb, .int .i64 y.off, .int .i64 x.n, .int .i64 y.inc]] w
     (fun e w' => e = .returned (.bool (decide (a = b) && meetsB x y)) ∧ ∃ o n, w' = ext w o n) := by
  have hnx := VecM.right_n hx
  have hny := VecM.right_n hy
  have Hnx := hid hnx
  have Hny := hid hny
  by_cases h0 : x.n = 0
  · have d1 : (x.n == 0) = true := by simpa using h0
    have m0 := hid (meets_n0 x y h0)
    clear h0 hx hy hwx hwy hn hnx hny
    go_enter Try.func142, Try.ntmps142
    refine seq_stop ?_
    go_wp2
    refine stop_go (fun W hW => ?_)
    have s1 : w.heap.size < W.heap.size := by rw [hW]; simp only [World.size_alloc]; omega
    have b1 : ∀ i, W.cell? ⟨w.heap.size, i, none⟩ = (#[.slice (some ⟨a, 0, none⟩) x.ws.length ca, .int .i64 x.off, .int .i64 x.n, .int .i64 x.inc] : Array Value)[i]? := by intro i; rw [hW]; go_simp
    have s2 : w.heap.size + 1 < W.heap.size := by rw [hW]; simp only [World.size_alloc]; omega
    have b2 : ∀ i, W.cell? ⟨w.heap.size + 1, i, none⟩ = (#[.slice (some ⟨b, 0, none⟩) y.ws.length cb, .int .i64 y.off, .int .i64 x.n, .int .i64 y.inc] : Array Value)[i]? := by intro i; rw [hW]; go_simp
    have g0 : Grew w W := by rw [hW]; exact ((Grew.refl _).alloc _).alloc _
    clear hW
    go_wp2
    refine wp_region_R (Grew W) [] [(0,0), (0,1), (0,2), (0,3), (0,4), (0,5), (0,6), (0,7), (0,8), (0,9), (0,10), (0,11), (0,12), (0,13), (0,14), (0,15), (0,16)] (by kernel_rfl) (by kernel_rfl) (fun _ _ _ _ h _ => h) (by first | exact ⟨_, _, ext_drew⟩ | exact ⟨_, _, drew_ext0⟩ | (show Grew _ _; repeat (first | (with_reducible exact Grew.refl _) | (with_reducible assumption) | (with_reducible exact Grew.same_o) | (with_reducible exact Grew.app_o) | (with_reducible refine Grew.ext ?_ _ _) | (with_reducible refine Grew.alloc ?_ _) | ((with_reducible refine Grew.setCell ?_ ?_ _); rotate_left; (focus (dsimp only; first | omega | (simp only [size_ext, World.size_alloc, Array.size_append]; omega)))) | (with_reducible refine Grew.drewN ?_ _) | (with_reducible refine Grew.drew ?_)))) ?_
    go_wp2_with (first | ((with_reducible refine wpR_id ?_); first | (refine wpR_take (v := ?_) rfl rfl ?_ ?_; rotate_left; (focus (rintro w' ⟨o', n', rfl⟩; go_simp; try with_reducible rfl)); simp only [Act.put, List.setIfInBounds_toArray, List.set_cons_zero, List.set_cons_succ]) | (refine wpR_pure (v := ?_) rfl rfl ?_ ?_; rotate_left; (focus (intro w'; go_simp; try with_reducible rfl)); simp only [Act.put, List.setIfInBounds_toArray, List.set_cons_zero, List.set_cons_succ]) | (refine wpR_takeG (v := ?_) rfl rfl rfl rfl rfl ?_ ?_; rotate_left; (focus (rintro w' ⟨o', n', rfl⟩; go_simp; try with_reducible rfl)); simp only [Act.put, List.setIfInBounds_toArray, List.set_cons_zero, List.set_cons_succ]) | (refine wpR_skip rfl rfl rfl rfl rfl rfl ?_; simp only [Act.put, List.setIfInBounds_toArray, List.set_cons_zero, List.set_cons_succ]) | (refine wpR_skipU rfl rfl rfl rfl rfl ?_; simp only [Act.put, List.setIfInBounds_toArray, List.set_cons_zero, List.set_cons_succ]) | (refine wpR_do rfl rfl (fun K hK => ?_)) | (refine wpR_doG rfl rfl rfl rfl rfl (fun K hK => ?_)) | (refine wpR_last rfl rfl (fun K hK => ?_)) | (refine wpR_nil ?_)) | ((with_reducible refine wpR_go ?_ ?_); (focus exact ⟨_, _, rfl⟩)) | ((with_reducible refine upon_id ?_); refine upon_fop rfl (by assumption) (by assumption) ?_; intro rr nn hr))
    go_ret
    exact ⟨by simp [m0.out], by (show Grew _ _; repeat (first | (with_reducible exact Grew.refl _) | (with_reducible assumption) | (with_reducible exact Grew.same_o) | (with_reducible exact Grew.app_o) | (with_reducible refine Grew.ext ?_ _ _) | (with_reducible refine Grew.alloc ?_ _) | ((with_reducible refine Grew.setCell ?_ ?_ _); rotate_left; (focus (dsimp only; first | omega | (simp only [size_ext, World.size_alloc, Array.size_append]; omega)))) | (with_reducible refine Grew.drewN ?_ _) | (with_reducible refine Grew.drew ?_)))⟩
  · have d1 : (x.n == 0) = false := by simpa using h0
    have hp := VecM.right_place hx (i := 0) (by omega)
    have hq := VecM.right_place hy (i := 0) (by omega)
    have l1 : 0 < x.ws.length := by omega
    have l2 : 0 < y.ws.length := by omega
    have Hx := hid hx
    have Hy := hid hy
    have Hn := hid hn
    have hwi := hwy.2.2
    have hnl := VecM.right_nle Hx.out hlx
    unfold I64 at hwi
    clear hx hy hwx hwy hn
    go_enter Try.func142, Try.ntmps142
    refine seq_stop ?_
    go_wp2
    refine stop_go (fun W hW => ?_)
    have s1 : w.heap.size < W.heap.size := by rw [hW]; simp only [World.size_alloc]; omega
    have b1 : ∀ i, W.cell? ⟨w.heap.size, i, none⟩ = (#[.slice (some ⟨a, 0, none⟩) x.ws.length ca, .int .i64 x.off, .int .i64 x.n, .int .i64 x.inc] : Array Value)[i]? := by intro i; rw [hW]; go_simp
    have s2 : w.heap.size + 1 < W.heap.size := by rw [hW]; simp only [World.size_alloc]; omega
    have b2 : ∀ i, W.cell? ⟨w.heap.size + 1, i, none⟩ = (#[.slice (some ⟨b, 0, none⟩) y.ws.length cb, .int .i64 y.off, .int .i64 x.n, .int .i64 y.inc] : Array Value)[i]? := by intro i; rw [hW]; go_simp
    have g0 : Grew w W := by rw [hW]; exact ((Grew.refl _).alloc _).alloc _
    clear hW
    by_cases hab : a = b
    · subst hab
      go_wp2
      refine wp_region_R (Grew W) [] [(0,0), (0,1), (0,2), (0,3), (0,4), (0,5), (0,6), (0,7), (0,8), (0,9), (0,10), (0,11), (0,12), (0,13), (0,14), (0,15), (0,16)] (by kernel_rfl) (by kernel_rfl) (fun _ _ _ _ h _ => h) (by first | exact ⟨_, _, ext_drew⟩ | exact ⟨_, _, drew_ext0⟩ | (show Grew _ _; repeat (first | (with_reducible exact Grew.refl _) | (with_reducible assumption) | (with_reducible exact Grew.same_o) | (with_reducible exact Grew.app_o) | (with_reducible refine Grew.ext ?_ _ _) | (with_reducible refine Grew.alloc ?_ _) | ((with_reducible refine Grew.setCell ?_ ?_ _); rotate_left; (focus (dsimp only; first | omega | (simp only [size_ext, World.size_alloc, Array.size_append]; omega)))) | (with_reducible refine Grew.drewN ?_ _) | (with_reducible refine Grew.drew ?_)))) ?_
      go_wp2_with (first | ((with_reducible refine wpR_id ?_); first | (refine wpR_take (v := ?_) rfl rfl ?_ ?_; rotate_left; (focus (rintro w' ⟨o', n', rfl⟩; go_simp; try with_reducible rfl)); simp only [Act.put, List.setIfInBounds_toArray, List.set_cons_zero, List.set_cons_succ]) | (refine wpR_pure (v := ?_) rfl rfl ?_ ?_; rotate_left; (focus (intro w'; go_simp; try with_reducible rfl)); simp only [Act.put, List.setIfInBounds_toArray, List.set_cons_zero, List.set_cons_succ]) | (refine wpR_takeG (v := ?_) rfl rfl rfl rfl rfl ?_ ?_; rotate_left; (focus (rintro w' ⟨o', n', rfl⟩; go_simp; try with_reducible rfl)); simp only [Act.put, List.setIfInBounds_toArray, List.set_cons_zero, List.set_cons_succ]) | (refine wpR_skip rfl rfl rfl rfl rfl rfl ?_; simp only [Act.put, List.setIfInBounds_toArray, List.set_cons_zero, List.set_cons_succ]) | (refine wpR_skipU rfl rfl rfl rfl rfl ?_; simp only [Act.put, List.setIfInBounds_toArray, List.set_cons_zero, List.set_cons_succ]) | (refine wpR_do rfl rfl (fun K hK => ?_)) | (refine wpR_doG rfl rfl rfl rfl rfl (fun K hK => ?_)) | (refine wpR_last rfl rfl (fun K hK => ?_)) | (refine wpR_nil ?_)) | ((with_reducible refine wpR_go ?_ ?_); (focus exact ⟨_, _, rfl⟩)) | ((with_reducible refine upon_id ?_); refine upon_fop rfl (by assumption) (by assumption) ?_; intro rr nn hr))
      go_loopw [26] (fun c wr => ∃ (i : Nat) (o : Array Obj) (n : Nat), (i : Int) ≤ x.n ∧ c = .int .i64 i ∧ wr = ext W o n ∧ meetsTo x y i = false) (fun c _ => x.n.toNat - (intOf c).toNat)
      case atStart => exact ⟨0, _, _, hnx.1, rfl, by first | rfl | exact drew_ext0 | exact ext_drew, rfl⟩
      case round =>
        obtain ⟨i, o2, n2, hi, rfl, hwr, hm⟩ := hrel
        subst hwr
        have Hm := hid hm
        clear hm
        by_cases hlt : (i : Int) < x.n
        · have hp := VecM.right_place Hx.out hlt
          have Hlt := hid hlt
          have r1 : IntKind.i64.wrap (i * x.inc) = i * x.inc := IntWalk.i64_in _ (by omega)
          have r2 : IntKind.i64.wrap (x.off + i * x.inc) = x.off + i * x.inc := IntWalk.i64_in _ (by omega)
          have r3 : IntKind.i64.wrap (x.off + i * x.inc - y.off) = x.off + i * x.inc - y.off := IntWalk.i64_in _ (by omega)
          have hB := hid (hit_B (x.off + i * x.inc) y hny.2.1)
          have hS := hid (meetsTo_succ x y i)
          obtain ⟨f, hf⟩ : ∃ f, Hid (x.off + i * x.inc - y.off = f) := ⟨_, hid rfl⟩
          have hfl : f ≤ 1000000 := by have := hf.out; omega
          rw [hf.out] at r3
          have e3 := hf.out
          have ny : y.inc ≠ 0 := by omega
          have ny' : ¬ y.inc = 0 := ny
          by_cases g1 : 0 ≤ f
          · have t1 : f.tmod y.inc = f % y.inc := Int.tmod_eq_emod_of_nonneg g1
            have t2 : f.tdiv y.inc = f / y.inc := Int.tdiv_eq_ediv_of_nonneg g1
            have t3 : 0 ≤ f / y.inc := Int.ediv_nonneg g1 (by omega)
            have t4 : f / y.inc ≤ f := Int.ediv_le_self _ g1
            have t5 : 0 ≤ f % y.inc := Int.emod_nonneg _ ny
            have t6 : f % y.inc < y.inc := Int.emod_lt_of_pos _ (by omega)
            have w1 : IntKind.i64.wrap (f % y.inc) = f % y.inc := IntWalk.i64_in _ (by omega)
            have w2 : IntKind.i64.wrap (f / y.inc) = f / y.inc := IntWalk.i64_in _ (by omega)
            have d5 : decide (0 ≤ f) = true := by simpa using g1
            by_cases g2 : f % y.inc = 0
            · have d6 : (f % y.inc == 0) = true := by simpa using g2
              by_cases g3 : f / y.inc < x.n
              · have d7 : decide (f / y.inc < x.n) = true := by simpa using g3
                have hit : meetsTo x y (i + 1) = true := by
                  rw [hS.out, Hm.out, Bool.false_or]
                  have : hitTo (x.off + i * x.inc) y y.n.toNat = true := by
                    rw [← hB.out, hf.out, d5, show decide (f % y.inc = 0) = true by simpa using g2, Hn.out, d7]; rfl
                  exact this
                have q := hid (show meetsB x y = true from meetsTo_mono hit (show i + 1 ≤ x.n.toNat by omega))
                clear g2 g3 hit
                go_wp2
                refine wp_region_R (Grew W) [] [(0,0), (0,1), (0,2), (0,3), (0,4), (0,5), (0,6), (0,7), (0,8), (0,9), (0,10), (0,11), (0,12), (0,13), (0,14), (0,15), (0,16), (0,17)] (by kernel_rfl) (by kernel_rfl) (fun _ _ _ _ h _ => h) (by first | exact ⟨_, _, ext_drew⟩ | exact ⟨_, _, drew_ext0⟩ | (show Grew _ _; repeat (first | (with_reducible exact Grew.refl _) | (with_reducible assumption) | (with_reducible exact Grew.same_o) | (with_reducible exact Grew.app_o) | (with_reducible refine Grew.ext ?_ _ _) | (with_reducible refine Grew.alloc ?_ _) | ((with_reducible refine Grew.setCell ?_ ?_ _); rotate_left; (focus (dsimp only; first | omega | (simp only [size_ext, World.size_alloc, Array.size_append]; omega)))) | (with_reducible refine Grew.drewN ?_ _) | (with_reducible refine Grew.drew ?_)))) ?_
                go_wp2_with (first | ((with_reducible refine wpR_id ?_); first | (refine wpR_take (v := ?_) rfl rfl ?_ ?_; rotate_left; (focus (rintro w' ⟨o', n', rfl⟩; go_simp; try with_reducible rfl)); simp only [Act.put, List.setIfInBounds_toArray, List.set_cons_zero, List.set_cons_succ]) | (refine wpR_pure (v := ?_) rfl rfl ?_ ?_; rotate_left; (focus (intro w'; go_simp; try with_reducible rfl)); simp only [Act.put, List.setIfInBounds_toArray, List.set_cons_zero, List.set_cons_succ]) | (refine wpR_takeG (v := ?_) rfl rfl rfl rfl rfl ?_ ?_; rotate_left; (focus (rintro w' ⟨o', n', rfl⟩; go_simp; try with_reducible rfl)); simp only [Act.put, List.setIfInBounds_toArray, List.set_cons_zero, List.set_cons_succ]) | (refine wpR_skip rfl rfl rfl rfl rfl rfl ?_; simp only [Act.put, List.setIfInBounds_toArray, List.set_cons_zero, List.set_cons_succ]) | (refine wpR_skipU rfl rfl rfl rfl rfl ?_; simp only [Act.put, List.setIfInBounds_toArray, List.set_cons_zero, List.set_cons_succ]) | (refine wpR_do rfl rfl (fun K hK => ?_)) | (refine wpR_doG rfl rfl rfl rfl rfl (fun K hK => ?_)) | (refine wpR_last rfl rfl (fun K hK => ?_)) | (refine wpR_nil ?_)) | ((with_reducible refine wpR_go ?_ ?_); (focus exact ⟨_, _, rfl⟩)) | ((with_reducible refine upon_id ?_); refine upon_fop rfl (by assumption) (by assumption) ?_; intro rr nn hr))
                go_ret
                exact ⟨ret_bool q.out.symm, by (show Grew _ _; repeat (first | (with_reducible exact Grew.refl _) | (with_reducible assumption) | (with_reducible exact Grew.same_o) | (with_reducible exact Grew.app_o) | (with_reducible refine Grew.ext ?_ _ _) | (with_reducible refine Grew.alloc ?_ _) | ((with_reducible refine Grew.setCell ?_ ?_ _); rotate_left; (focus (dsimp only; first | omega | (simp only [size_ext, World.size_alloc, Array.size_append]; omega)))) | (with_reducible refine Grew.drewN ?_ _) | (with_reducible refine Grew.drew ?_)))⟩
              · have d7 : decide (f / y.inc < x.n) = false := by simpa using g3
                have miss : meetsTo x y (i + 1) = false := by
                  rw [hS.out, Hm.out, Bool.false_or]
                  have : hitTo (x.off + i * x.inc) y y.n.toNat = false := by
                    rw [← hB.out, hf.out, Hn.out]; rw [d7]; simp
                  exact this
                go_wp2
                refine wp_region_R (Grew W) [] [(0,0), (0,1), (0,2), (0,3), (0,4), (0,5), (0,6), (0,7), (0,8), (0,9), (0,10), (0,11), (0,12), (0,13), (0,14), (0,15), (0,16), (0,17)] (by kernel_rfl) (by kernel_rfl) (fun _ _ _ _ h _ => h) (by first | exact ⟨_, _, ext_drew⟩ | exact ⟨_, _, drew_ext0⟩ | (show Grew _ _; repeat (first | (with_reducible exact Grew.refl _) | (with_reducible assumption) | (with_reducible exact Grew.same_o) | (with_reducible exact Grew.app_o) | (with_reducible refine Grew.ext ?_ _ _) | (with_reducible refine Grew.alloc ?_ _) | ((with_reducible refine Grew.setCell ?_ ?_ _); rotate_left; (focus (dsimp only; first | omega | (simp only [size_ext, World.size_alloc, Array.size_append]; omega)))) | (with_reducible refine Grew.drewN ?_ _) | (with_reducible refine Grew.drew ?_)))) ?_
                go_wp2_with (first | ((with_reducible refine wpR_id ?_); first | (refine wpR_take (v := ?_) rfl rfl ?_ ?_; rotate_left; (focus (rintro w' ⟨o', n', rfl⟩; go_simp; try with_reducible rfl)); simp only [Act.put, List.setIfInBounds_toArray, List.set_cons_zero, List.set_cons_succ]) | (refine wpR_pure (v := ?_) rfl rfl ?_ ?_; rotate_left; (focus (intro w'; go_simp; try with_reducible rfl)); simp only [Act.put, List.setIfInBounds_toArray, List.set_cons_zero, List.set_cons_succ]) | (refine wpR_takeG (v := ?_) rfl rfl rfl rfl rfl ?_ ?_; rotate_left; (focus (rintro w' ⟨o', n', rfl⟩; go_simp; try with_reducible rfl)); simp only [Act.put, List.setIfInBounds_toArray, List.set_cons_zero, List.set_cons_succ]) | (refine wpR_skip rfl rfl rfl rfl rfl rfl ?_; simp only [Act.put, List.setIfInBounds_toArray, List.set_cons_zero, List.set_cons_succ]) | (refine wpR_skipU rfl rfl rfl rfl rfl ?_; simp only [Act.put, List.setIfInBounds_toArray, List.set_cons_zero, List.set_cons_succ]) | (refine wpR_do rfl rfl (fun K hK => ?_)) | (refine wpR_doG rfl rfl rfl rfl rfl (fun K hK => ?_)) | (refine wpR_last rfl rfl (fun K hK => ?_)) | (refine wpR_nil ?_)) | ((with_reducible refine wpR_go ?_ ?_); (focus exact ⟨_, _, rfl⟩)) | ((with_reducible refine upon_id ?_); refine upon_fop rfl (by assumption) (by assumption) ?_; intro rr nn hr))
                go_roundw
                case rel => exact ⟨i + 1, _, _, by have := Hlt.out; omega, by go_num, rfl, miss⟩
                case measure => (have := Hlt.out; simp [intOf]; omega)
            · have d6 : (f % y.inc == 0) = false := by simpa using g2
              have miss : meetsTo x y (i + 1) = false := by
                rw [hS.out, Hm.out, Bool.false_or]
                have : hitTo (x.off + i * x.inc) y y.n.toNat = false := by
                  rw [← hB.out, hf.out, Hn.out]; rw [show decide (f % y.inc = 0) = false by simpa using g2]; simp
                exact this
              go_wp2
              refine wp_region_R (Grew W) [] [(0,0), (0,1), (0,2), (0,3), (0,4), (0,5), (0,6), (0,7), (0,8), (0,9), (0,10), (0,11), (0,12), (0,13), (0,14), (0,15), (0,16), (0,17)] (by kernel_rfl) (by kernel_rfl) (fun _ _ _ _ h _ => h) (by first | exact ⟨_, _, ext_drew⟩ | exact ⟨_, _, drew_ext0⟩ | (show Grew _ _; repeat (first | (with_reducible exact Grew.refl _) | (with_reducible assumption) | (with_reducible exact Grew.same_o) | (with_reducible exact Grew.app_o) | (with_reducible refine Grew.ext ?_ _ _) | (with_reducible refine Grew.alloc ?_ _) | ((with_reducible refine Grew.setCell ?_ ?_ _); rotate_left; (focus (dsimp only; first | omega | (simp only [size_ext, World.size_alloc, Array.size_append]; omega)))) | (with_reducible refine Grew.drewN ?_ _) | (with_reducible refine Grew.drew ?_)))) ?_
              go_wp2_with (first | ((with_reducible refine wpR_id ?_); first | (refine wpR_take (v := ?_) rfl rfl ?_ ?_; rotate_left; (focus (rintro w' ⟨o', n', rfl⟩; go_simp; try with_reducible rfl)); simp only [Act.put, List.setIfInBounds_toArray, List.set_cons_zero, List.set_cons_succ]) | (refine wpR_pure (v := ?_) rfl rfl ?_ ?_; rotate_left; (focus (intro w'; go_simp; try with_reducible rfl)); simp only [Act.put, List.setIfInBounds_toArray, List.set_cons_zero, List.set_cons_succ]) | (refine wpR_takeG (v := ?_) rfl rfl rfl rfl rfl ?_ ?_; rotate_left; (focus (rintro w' ⟨o', n', rfl⟩; go_simp; try with_reducible rfl)); simp only [Act.put, List.setIfInBounds_toArray, List.set_cons_zero, List.set_cons_succ]) | (refine wpR_skip rfl rfl rfl rfl rfl rfl ?_; simp only [Act.put, List.setIfInBounds_toArray, List.set_cons_zero, List.set_cons_succ]) | (refine wpR_skipU rfl rfl rfl rfl rfl ?_; simp only [Act.put, List.setIfInBounds_toArray, List.set_cons_zero, List.set_cons_succ]) | (refine wpR_do rfl rfl (fun K hK => ?_)) | (refine wpR_doG rfl rfl rfl rfl rfl (fun K hK => ?_)) | (refine wpR_last rfl rfl (fun K hK => ?_)) | (refine wpR_nil ?_)) | ((with_reducible refine wpR_go ?_ ?_); (focus exact ⟨_, _, rfl⟩)) | ((with_reducible refine upon_id ?_); refine upon_fop rfl (by assumption) (by assumption) ?_; intro rr nn hr))
              go_roundw
              case rel => exact ⟨i + 1, _, _, by have := Hlt.out; omega, by go_num, rfl, miss⟩
              case measure => (have := Hlt.out; simp [intOf]; omega)
          · have d5 : decide (0 ≤ f) = false := by simpa using g1
            have miss : meetsTo x y (i + 1) = false := by
              rw [hS.out, Hm.out, Bool.false_or]
              have : hitTo (x.off + i * x.inc) y y.n.toNat = false := by
                rw [← hB.out, hf.out, Hn.out]; rw [d5]; simp
              exact this
            go_wp2
            refine wp_region_R (Grew W) [] [(0,0), (0,1), (0,2), (0,3), (0,4), (0,5), (0,6), (0,7), (0,8), (0,9), (0,10), (0,11), (0,12), (0,13), (0,14), (0,15), (0,16), (0,17)] (by kernel_rfl) (by kernel_rfl) (fun _ _ _ _ h _ => h) (by first | exact ⟨_, _, ext_drew⟩ | exact ⟨_, _, drew_ext0⟩ | (show Grew _ _; repeat (first | (with_reducible exact Grew.refl _) | (with_reducible assumption) | (with_reducible exact Grew.same_o) | (with_reducible exact Grew.app_o) | (with_reducible refine Grew.ext ?_ _ _) | (with_reducible refine Grew.alloc ?_ _) | ((with_reducible refine Grew.setCell ?_ ?_ _); rotate_left; (focus (dsimp only; first | omega | (simp only [size_ext, World.size_alloc, Array.size_append]; omega)))) | (with_reducible refine Grew.drewN ?_ _) | (with_reducible refine Grew.drew ?_)))) ?_
            go_wp2_with (first | ((with_reducible refine wpR_id ?_); first | (refine wpR_take (v := ?_) rfl rfl ?_ ?_; rotate_left; (focus (rintro w' ⟨o', n', rfl⟩; go_simp; try with_reducible rfl)); simp only [Act.put, List.setIfInBounds_toArray, List.set_cons_zero, List.set_cons_succ]) | (refine wpR_pure (v := ?_) rfl rfl ?_ ?_; rotate_left; (focus (intro w'; go_simp; try with_reducible rfl)); simp only [Act.put, List.setIfInBounds_toArray, List.set_cons_zero, List.set_cons_succ]) | (refine wpR_takeG (v := ?_) rfl rfl rfl rfl rfl ?_ ?_; rotate_left; (focus (rintro w' ⟨o', n', rfl⟩; go_simp; try with_reducible rfl)); simp only [Act.put, List.setIfInBounds_toArray, List.set_cons_zero, List.set_cons_succ]) | (refine wpR_skip rfl rfl rfl rfl rfl rfl ?_; simp only [Act.put, List.setIfInBounds_toArray, List.set_cons_zero, List.set_cons_succ]) | (refine wpR_skipU rfl rfl rfl rfl rfl ?_; simp only [Act.put, List.setIfInBounds_toArray, List.set_cons_zero, List.set_cons_succ]) | (refine wpR_do rfl rfl (fun K hK => ?_)) | (refine wpR_doG rfl rfl rfl rfl rfl (fun K hK => ?_)) | (refine wpR_last rfl rfl (fun K hK => ?_)) | (refine wpR_nil ?_)) | ((with_reducible refine wpR_go ?_ ?_); (focus exact ⟨_, _, rfl⟩)) | ((with_reducible refine upon_id ?_); refine upon_fop rfl (by assumption) (by assumption) ?_; intro rr nn hr))
            go_roundw
            case rel => exact ⟨i + 1, _, _, by have := Hlt.out; omega, by go_num, rfl, miss⟩
            case measure => (have := Hlt.out; simp [intOf]; omega)
        · have q := hid (show meetsB x y = false by unfold meetsB; rw [show x.n.toNat = i by omega]; exact Hm.out)
          go_wp2
          go_ret
          exact ⟨ret_bool q.out.symm, by (show Grew _ _; repeat (first | (with_reducible exact Grew.refl _) | (with_reducible assumption) | (with_reducible exact Grew.same_o) | (with_reducible exact Grew.app_o) | (with_reducible refine Grew.ext ?_ _ _) | (with_reducible refine Grew.alloc ?_ _) | ((with_reducible refine Grew.setCell ?_ ?_ _); rotate_left; (focus (dsimp only; first | omega | (simp only [size_ext, World.size_alloc, Array.size_append]; omega)))) | (with_reducible refine Grew.drewN ?_ _) | (with_reducible refine Grew.drew ?_)))⟩
    · have hne : ∀ o n, (binOp .neq 142 (.pointer (some ⟨a, 0, none⟩)) (.pointer (some ⟨b, 0, none⟩))).run Try.prog (ext W o n) = .ok (.bool true) (ext W o n) := fun o n => neq_other ((hPa.grew g0).grew ⟨_, _, rfl⟩) ((hPb.grew g0).grew ⟨_, _, rfl⟩) hab
      have q := hid (show (decide (a = b) && meetsB x y) = false by simp [hab])
      go_wp2
      refine wp_region_R (Grew W) [] [(0,0), (0,1), (0,2), (0,3), (0,4), (0,5), (0,6), (0,7), (0,8), (0,9), (0,10), (0,11), (0,12), (0,13), (0,14), (0,15), (0,16)] (by kernel_rfl) (by kernel_rfl) (fun _ _ _ _ h _ => h) (by first | exact ⟨_, _, ext_drew⟩ | exact ⟨_, _, drew_ext0⟩ | (show Grew _ _; repeat (first | (with_reducible exact Grew.refl _) | (with_reducible assumption) | (with_reducible exact Grew.same_o) | (with_reducible exact Grew.app_o) | (with_reducible refine Grew.ext ?_ _ _) | (with_reducible refine Grew.alloc ?_ _) | ((with_reducible refine Grew.setCell ?_ ?_ _); rotate_left; (focus (dsimp only; first | omega | (simp only [size_ext, World.size_alloc, Array.size_append]; omega)))) | (with_reducible refine Grew.drewN ?_ _) | (with_reducible refine Grew.drew ?_)))) ?_
      go_wp2_with (first | ((with_reducible refine wpR_id ?_); first | (refine wpR_take (v := ?_) rfl rfl ?_ ?_; rotate_left; (focus (rintro w' ⟨o', n', rfl⟩; go_simp; try with_reducible rfl)); simp only [Act.put, List.setIfInBounds_toArray, List.set_cons_zero, List.set_cons_succ]) | (refine wpR_pure (v := ?_) rfl rfl ?_ ?_; rotate_left; (focus (intro w'; go_simp; try with_reducible rfl)); simp only [Act.put, List.setIfInBounds_toArray, List.set_cons_zero, List.set_cons_succ]) | (refine wpR_takeG (v := ?_) rfl rfl rfl rfl rfl ?_ ?_; rotate_left; (focus (rintro w' ⟨o', n', rfl⟩; go_simp; try with_reducible rfl)); simp only [Act.put, List.setIfInBounds_toArray, List.set_cons_zero, List.set_cons_succ]) | (refine wpR_skip rfl rfl rfl rfl rfl rfl ?_; simp only [Act.put, List.setIfInBounds_toArray, List.set_cons_zero, List.set_cons_succ]) | (refine wpR_skipU rfl rfl rfl rfl rfl ?_; simp only [Act.put, List.setIfInBounds_toArray, List.set_cons_zero, List.set_cons_succ]) | (refine wpR_do rfl rfl (fun K hK => ?_)) | (refine wpR_doG rfl rfl rfl rfl rfl (fun K hK => ?_)) | (refine wpR_last rfl rfl (fun K hK => ?_)) | (refine wpR_nil ?_)) | ((with_reducible refine wpR_go ?_ ?_); (focus exact ⟨_, _, rfl⟩)) | ((with_reducible refine upon_id ?_); refine upon_fop rfl (by assumption) (by assumption) ?_; intro rr nn hr))
      go_ret
      exact ⟨ret_bool q.out.symm, by (show Grew _ _; repeat (first | (with_reducible exact Grew.refl _) | (with_reducible assumption) | (with_reducible exact Grew.same_o) | (with_reducible exact Grew.app_o) | (with_reducible refine Grew.ext ?_ _ _) | (with_reducible refine Grew.alloc ?_ _) | ((with_reducible refine Grew.setCell ?_ ?_ _); rotate_left; (focus (dsimp only; first | omega | (simp only [size_ext, World.size_alloc, Array.size_append]; omega)))) | (with_reducible refine Grew.drewN ?_ _) | (with_reducible refine Grew.drew ?_)))⟩
end Go.Proofs.Ytcmggfpcbijcjaa
end
section
/-
  Contracts: view.span, view.Meet; straightedgeref07.MatSpan, VecSpan, Spans.
-/
set_option linter.unusedSimpArgs false
set_option linter.unusedVariables false
open Go Go.RowKit Sedge
namespace Go.Proofs.Ytcmggfpcbijcjaa
def MatM.full (m : MatM) : Bool := m.good && !(m.rows == 0) && !(m.cols == 0)
def spanLo (m : MatM) : Int := if MatM.full m = true then m.off else 0
def spanHi (m : MatM) : Int := if MatM.full m = true then m.off + (m.cols - 1) * m.ld + m.rows - 1 else 0
theorem MatM.full_place {m : MatM} (h : MatM.full m = true) : m.good = true ∧ 1 ≤ m.rows ∧ 1 ≤ m.cols ∧ 0 ≤ (m.cols - 1) * m.ld ∧ 0 ≤ m.off ∧ m.off + (m.cols - 1) * m.ld + m.rows - 1 < m.ws.length := by
  unfold MatM.full at h
  simp only [Bool.and_eq_true, Bool.not_eq_true', beq_eq_false_iff_ne] at h
  obtain ⟨⟨h1, h2⟩, h3⟩ := h
  have hn := m.good_n h1
  have hp := MatM.good_place h1 (i := (m.rows - 1).toNat) (j := (m.cols - 1).toNat) (by omega) (by omega)
  rw [Int.toNat_of_nonneg (by omega), Int.toNat_of_nonneg (by omega)] at hp
  refine ⟨h1, by omega, by omega, hp.2.2, hn.2.2.1, by omega⟩
theorem ret_tuple3 {a b a' b' : Int} {c c' : Bool} (h1 : a = a') (h2 : b = b') (h3 : c = c') : Ending.returned (.tuple #[.int .i64 a, .int .i64 b, .bool c]) = .returned (.tuple #[.int .i64 a', .int .i64 b', .bool c']) := by rw [h1, h2, h3]
set_option maxRecDepth 100000 in
set_option maxHeartbeats 1000000 in
/-- view.span. -/
theorem span_any (x : MatM) (D : Value) (w : World) (hD : FS w D x.ws) (hwf : x.wf) (hl : x.ws.length ≤ 1000000) :
   Calls Try.prog 194 #[.agg #[D, .int .i64 x.off, .int .i64 x.rows, .int .i64 x.cols, .int .i64 x.ld]] w
     (fun e w' => e = .returned (.tuple #[.int .i64 (spanLo x), .int .i64 (spanHi x), .bool (MatM.full x)]) ∧ ∃ o n, w' = ext w o n) := by
  have Hw := hid hwf
  clear hwf
  cases hf : MatM.full x
  · have q1 := hid (show spanLo x = 0 by unfold spanLo; rw [hf]; rfl)
    have q2 := hid (show spanHi x = 0 by unfold spanHi; rw [hf]; rfl)
    cases hg : x.good
    · clear hf
      go_enter Try.func194, Try.ntmps194
      refine seq_stop ?_
      go_wp2
      refine stop_go (fun W hW => ?_)
      have s1 : w.heap.size < W.heap.size := by rw [hW]; simp only [World.size_alloc]; omega
      have b1 : ∀ i, W.cell? ⟨w.heap.size, i, none⟩ = (#[D, .int .i64 x.off, .int .i64 x.rows, .int .i64 x.cols, .int .i64 x.ld] : Array Value)[i]? := by intro i; rw [hW]; go_simp
      have g0 : Grew w W := by rw [hW]; exact (Grew.refl _).alloc _
      clear hW
      have hDW := hD.grew g0
      go_wp2_with (first | (go_at_call 130; ((with_reducible refine (good_any x _ _ ?_ Hw.out).mono ?_); (focus (first | (with_reducible assumption) | (with_reducible refine FS.ext ?_ _ _; with_reducible assumption) | (with_reducible refine IS.ext ?_ _ _; with_reducible assumption) | (refine hDu _ ?_; with_reducible assumption) | (refine hOu _ ?_; with_reducible assumption) | (refine hDa _ ?_; with_reducible assumption) | (refine hDb _ ?_; with_reducible assumption) | (refine hDc _ ?_; with_reducible assumption) | (refine hDd _ ?_; with_reducible assumption) | (refine FW.fs ?_ (by omega) _; with_reducible assumption) | (refine WS.fs ?_; with_reducible assumption) | (refine FW.fs ?_ (by omega) _; assumption) | omega | assumption)); rintro e w1 ⟨rfl, o1, n1, rfl⟩)))
      refine bodyPost_ret (v := .tuple #[.int .i64 0, .int .i64 0, .bool false]) (by simp [results, Try.results194, go_sem, *]) rfl ?_
      exact ⟨ret_tuple3 q1.out.symm q2.out.symm rfl, by (show Grew _ _; repeat (first | (with_reducible exact Grew.refl _) | (with_reducible assumption) | (with_reducible exact Grew.same_o) | (with_reducible exact Grew.app_o) | (with_reducible refine Grew.ext ?_ _ _) | (with_reducible refine Grew.alloc ?_ _) | ((with_reducible refine Grew.setCell ?_ ?_ _); rotate_left; (focus (dsimp only; first | omega | (simp only [size_ext, World.size_alloc, Array.size_append]; omega)))) | (with_reducible refine Grew.drewN ?_ _) | (with_reducible refine Grew.drew ?_)))⟩
    · cases hr : (x.rows == 0)
      · have hc : (x.cols == 0) = true := by
          unfold MatM.full at hf; rw [hg, hr] at hf; simpa using hf
        clear hf
        go_enter Try.func194, Try.ntmps194
        refine seq_stop ?_
        go_wp2
        refine stop_go (fun W hW => ?_)
        have s1 : w.heap.size < W.heap.size := by rw [hW]; simp only [World.size_alloc]; omega
        have b1 : ∀ i, W.cell? ⟨w.heap.size, i, none⟩ = (#[D, .int .i64 x.off, .int .i64 x.rows, .int .i64 x.cols, .int .i64 x.ld] : Array Value)[i]? := by intro i; rw [hW]; go_simp
        have g0 : Grew w W := by rw [hW]; exact (Grew.refl _).alloc _
        clear hW
        have hDW := hD.grew g0
        go_wp2_with (first | (go_at_call 130; ((with_reducible refine (good_any x _ _ ?_ Hw.out).mono ?_); (focus (first | (with_reducible assumption) | (with_reducible refine FS.ext ?_ _ _; with_reducible assumption) | (with_reducible refine IS.ext ?_ _ _; with_reducible assumption) | (refine hDu _ ?_; with_reducible assumption) | (refine hOu _ ?_; with_reducible assumption) | (refine hDa _ ?_; with_reducible assumption) | (refine hDb _ ?_; with_reducible assumption) | (refine hDc _ ?_; with_reducible assumption) | (refine hDd _ ?_; with_reducible assumption) | (refine FW.fs ?_ (by omega) _; with_reducible assumption) | (refine WS.fs ?_; with_reducible assumption) | (refine FW.fs ?_ (by omega) _; assumption) | omega | assumption)); rintro e w1 ⟨rfl, o1, n1, rfl⟩)))
        refine bodyPost_ret (v := .tuple #[.int .i64 0, .int .i64 0, .bool false]) (by simp [results, Try.results194, go_sem, *]) rfl ?_
        exact ⟨ret_tuple3 q1.out.symm q2.out.symm rfl, by (show Grew _ _; repeat (first | (with_reducible exact Grew.refl _) | (with_reducible assumption) | (with_reducible exact Grew.same_o) | (with_reducible exact Grew.app_o) | (with_reducible refine Grew.ext ?_ _ _) | (with_reducible refine Grew.alloc ?_ _) | ((with_reducible refine Grew.setCell ?_ ?_ _); rotate_left; (focus (dsimp only; first | omega | (simp only [size_ext, World.size_alloc, Array.size_append]; omega)))) | (with_reducible refine Grew.drewN ?_ _) | (with_reducible refine Grew.drew ?_)))⟩
      · clear hf
        go_enter Try.func194, Try.ntmps194
        refine seq_stop ?_
        go_wp2
        refine stop_go (fun W hW => ?_)
        have s1 : w.heap.size < W.heap.size := by rw [hW]; simp only [World.size_alloc]; omega
        have b1 : ∀ i, W.cell? ⟨w.heap.size, i, none⟩ = (#[D, .int .i64 x.off, .int .i64 x.rows, .int .i64 x.cols, .int .i64 x.ld] : Array Value)[i]? := by intro i; rw [hW]; go_simp
        have g0 : Grew w W := by rw [hW]; exact (Grew.refl _).alloc _
        clear hW
        have hDW := hD.grew g0
        go_wp2_with (first | (go_at_call 130; ((with_reducible refine (good_any x _ _ ?_ Hw.out).mono ?_); (focus (first | (with_reducible assumption) | (with_reducible refine FS.ext ?_ _ _; with_reducible assumption) | (with_reducible refine IS.ext ?_ _ _; with_reducible assumption) | (refine hDu _ ?_; with_reducible assumption) | (refine hOu _ ?_; with_reducible assumption) | (refine hDa _ ?_; with_reducible assumption) | (refine hDb _ ?_; with_reducible assumption) | (refine hDc _ ?_; with_reducible assumption) | (refine hDd _ ?_; with_reducible assumption) | (refine FW.fs ?_ (by omega) _; with_reducible assumption) | (refine WS.fs ?_; with_reducible assumption) | (refine FW.fs ?_ (by omega) _; assumption) | omega | assumption)); rintro e w1 ⟨rfl, o1, n1, rfl⟩)))
        refine bodyPost_ret (v := .tuple #[.int .i64 0, .int .i64 0, .bool false]) (by simp [results, Try.results194, go_sem, *]) rfl ?_
        exact ⟨ret_tuple3 q1.out.symm q2.out.symm rfl, by (show Grew _ _; repeat (first | (with_reducible exact Grew.refl _) | (with_reducible assumption) | (with_reducible exact Grew.same_o) | (with_reducible exact Grew.app_o) | (with_reducible refine Grew.ext ?_ _ _) | (with_reducible refine Grew.alloc ?_ _) | ((with_reducible refine Grew.setCell ?_ ?_ _); rotate_left; (focus (dsimp only; first | omega | (simp only [size_ext, World.size_alloc, Array.size_append]; omega)))) | (with_reducible refine Grew.drewN ?_ _) | (with_reducible refine Grew.drew ?_)))⟩
  · have hp := MatM.full_place hf
    have q1 := hid (show spanLo x = x.off by unfold spanLo; rw [hf]; rfl)
    have q2 := hid (show spanHi x = x.off + (x.cols - 1) * x.ld + x.rows - 1 by unfold spanHi; rw [hf]; rfl)
    have hg := hp.1
    have hr : (x.rows == 0) = false := by rw [beq_eq_false_iff_ne]; omega
    have hc : (x.cols == 0) = false := by rw [beq_eq_false_iff_ne]; omega
    have hwf := Hw.out
    obtain ⟨i1, i2, i3, i4⟩ := hwf
    unfold I64 at i1 i2 i3 i4
    have r1 : IntKind.i64.wrap (x.cols - 1) = x.cols - 1 := IntWalk.i64_in _ (by omega)
    have r2 : IntKind.i64.wrap ((x.cols - 1) * x.ld) = (x.cols - 1) * x.ld := IntWalk.i64_in _ (by omega)
    have r3 : IntKind.i64.wrap (x.off + (x.cols - 1) * x.ld) = x.off + (x.cols - 1) * x.ld := IntWalk.i64_in _ (by omega)
    have r4 : IntKind.i64.wrap (x.off + (x.cols - 1) * x.ld + x.rows) = x.off + (x.cols - 1) * x.ld + x.rows := IntWalk.i64_in _ (by omega)
    have r5 : IntKind.i64.wrap (x.off + (x.cols - 1) * x.ld + x.rows - 1) = x.off + (x.cols - 1) * x.ld + x.rows - 1 := IntWalk.i64_in _ (by omega)
    clear hf
    go_enter Try.func194, Try.ntmps194
    refine seq_stop ?_
    go_wp2
    refine stop_go (fun W hW => ?_)
    have s1 : w.heap.size < W.heap.size := by rw [hW]; simp only [World.size_alloc]; omega
    have b1 : ∀ i, W.cell? ⟨w.heap.size, i, none⟩ = (#[D, .int .i64 x.off, .int .i64 x.rows, .int .i64 x.cols, .int .i64 x.ld] : Array Value)[i]? := by intro i; rw [hW]; go_simp
    have g0 : Grew w W := by rw [hW]; exact (Grew.refl _).alloc _
    clear hW
    have hDW := hD.grew g0
    go_wp2_with (first | (go_at_call 130; ((with_reducible refine (good_any x _ _ ?_ Hw.out).mono ?_); (focus (first | (with_reducible assumption) | (with_reducible refine FS.ext ?_ _ _; with_reducible assumption) | (with_reducible refine IS.ext ?_ _ _; with_reducible assumption) | (refine hDu _ ?_; with_reducible assumption) | (refine hOu _ ?_; with_reducible assumption) | (refine hDa _ ?_; with_reducible assumption) | (refine hDb _ ?_; with_reducible assumption) | (refine hDc _ ?_; with_reducible assumption) | (refine hDd _ ?_; with_reducible assumption) | (refine FW.fs ?_ (by omega) _; with_reducible assumption) | (refine WS.fs ?_; with_reducible assumption) | (refine FW.fs ?_ (by omega) _; assumption) | omega | assumption)); rintro e w1 ⟨rfl, o1, n1, rfl⟩)))
    refine wp_region_R (Grew W) [] [(0,0), (0,1), (0,2), (0,3), (0,4), (0,5), (0,6), (0,7), (0,8), (0,9), (0,10), (0,11), (0,12), (0,13), (0,14), (0,15), (0,16), (0,17)] (by kernel_rfl) (by kernel_rfl) (fun _ _ _ _ h _ => h) (by first | exact ⟨_, _, ext_drew⟩ | exact ⟨_, _, drew_ext0⟩ | (show Grew _ _; repeat (first | (with_reducible exact Grew.refl _) | (with_reducible assumption) | (with_reducible exact Grew.same_o) | (with_reducible exact Grew.app_o) | (with_reducible refine Grew.ext ?_ _ _) | (with_reducible refine Grew.alloc ?_ _) | ((with_reducible refine Grew.setCell ?_ ?_ _); rotate_left; (focus (dsimp only; first | omega | (simp only [size_ext, World.size_alloc, Array.size_append]; omega)))) | (with_reducible refine Grew.drewN ?_ _) | (with_reducible refine Grew.drew ?_)))) ?_
    go_wp2_with (first | ((with_reducible refine wpR_id ?_); first | (refine wpR_take (v := ?_) rfl rfl ?_ ?_; rotate_left; (focus (rintro w' ⟨o', n', rfl⟩; go_simp; try with_reducible rfl)); simp only [Act.put, List.setIfInBounds_toArray, List.set_cons_zero, List.set_cons_succ]) | (refine wpR_pure (v := ?_) rfl rfl ?_ ?_; rotate_left; (focus (intro w'; go_simp; try with_reducible rfl)); simp only [Act.put, List.setIfInBounds_toArray, List.set_cons_zero, List.set_cons_succ]) | (refine wpR_takeG (v := ?_) rfl rfl rfl rfl rfl ?_ ?_; rotate_left; (focus (rintro w' ⟨o', n', rfl⟩; go_simp; try with_reducible rfl)); simp only [Act.put, List.setIfInBounds_toArray, List.set_cons_zero, List.set_cons_succ]) | (refine wpR_skip rfl rfl rfl rfl rfl rfl ?_; simp only [Act.put, List.setIfInBounds_toArray, List.set_cons_zero, List.set_cons_succ]) | (refine wpR_skipU rfl rfl rfl rfl rfl ?_; simp only [Act.put, List.setIfInBounds_toArray, List.set_cons_zero, List.set_cons_succ]) | (refine wpR_do rfl rfl (fun K hK => ?_)) | (refine wpR_doG rfl rfl rfl rfl rfl (fun K hK => ?_)) | (refine wpR_last rfl rfl (fun K hK => ?_)) | (refine wpR_nil ?_)) | ((with_reducible refine wpR_go ?_ ?_); (focus exact ⟨_, _, rfl⟩)) | ((with_reducible refine upon_id ?_); refine upon_fop rfl (by assumption) (by assumption) ?_; intro rr nn hr))
    refine bodyPost_ret (v := .tuple #[.int .i64 x.off, .int .i64 (x.off + (x.cols - 1) * x.ld + x.rows - 1), .bool true]) (by simp [results, Try.results194, go_sem, *]) rfl ?_
    exact ⟨ret_tuple3 q1.out.symm q2.out.symm rfl, by (show Grew _ _; repeat (first | (with_reducible exact Grew.refl _) | (with_reducible assumption) | (with_reducible exact Grew.same_o) | (with_reducible exact Grew.app_o) | (with_reducible refine Grew.ext ?_ _ _) | (with_reducible refine Grew.alloc ?_ _) | ((with_reducible refine Grew.setCell ?_ ?_ _); rotate_left; (focus (dsimp only; first | omega | (simp only [size_ext, World.size_alloc, Array.size_append]; omega)))) | (with_reducible refine Grew.drewN ?_ _) | (with_reducible refine Grew.drew ?_)))⟩
def meetM (x y : MatM) (one : Bool) : Bool := MatM.full x && MatM.full y && one && decide (spanLo x ≤ spanHi y) && decide (spanLo y ≤ spanHi x)
set_option maxRecDepth 100000 in
set_option maxHeartbeats 1000000 in
/-- view.Meet. -/
theorem meetM_any (x y : MatM) (a b ca cb : Nat) (w : World) (hA : FS w (.slice (some ⟨a, 0, none⟩) x.ws.length ca) x.ws) (hB : FS w (.slice (some ⟨b, 0, none⟩) y.ws.length cb) y.ws) (hPa : Plain w a) (hPb : Plain w b) (hwx : x.wf) (hwy : y.wf) (hlx : x.ws.length ≤ 1000000) (hly : y.ws.length ≤ 1000000) :
   Calls Try.prog 136 #[.agg #[.slice (some ⟨a, 0, none⟩) x.ws.length ca, .int .i64 x.off, .int .i64 x.rows, .int .i64 x.cols, .int .i64 x.ld], .agg #[.slice (some ⟨b, 0, none⟩) y.ws.length cb, .int .i64 y.off, .int .i64 y.rows, .int .i64 y.cols, .int .i64 y.ld]] w
     (fun e w' => e = .returned (.bool (meetM x y (decide (a = b)))) ∧ ∃ o n, w' = ext w o n) := by
  have Hwx := hid hwx
  have Hwy := hid hwy
  clear hwx hwy
  have hne : ∀ W', Grew w W' → a ≠ b → (binOp .eql 142 (.pointer (some ⟨a, 0, none⟩)) (.pointer (some ⟨b, 0, none⟩))).run Try.prog W' = .ok (.bool false) W' := fun W' g h => eql_other (hPa.grew g) (hPb.grew g) h
  obtain ⟨l1, hl1⟩ : ∃ z, Hid (z = spanLo x) := ⟨_, hid rfl⟩
  obtain ⟨h1, hh1⟩ : ∃ z, Hid (z = spanHi x) := ⟨_, hid rfl⟩
  obtain ⟨l2, hl2⟩ : ∃ z, Hid (z = spanLo y) := ⟨_, hid rfl⟩
  obtain ⟨h2, hh2⟩ : ∃ z, Hid (z = spanHi y) := ⟨_, hid rfl⟩
  have hM : ∀ one, meetM x y one = (MatM.full x && MatM.full y && one && decide (l1 ≤ h2) && decide (l2 ≤ h1)) := fun one => by unfold meetM; rw [hl1.out, hh1.out, hl2.out, hh2.out]
  have sx : ∀ w', FS w' (.slice (some ⟨a, 0, none⟩) x.ws.length ca) x.ws → Calls Try.prog 194 #[.agg #[.slice (some ⟨a, 0, none⟩) x.ws.length ca, .int .i64 x.off, .int .i64 x.rows, .int .i64 x.cols, .int .i64 x.ld]] w' (fun e w2 => e = .returned (.tuple #[.int .i64 l1, .int .i64 h1, .bool (MatM.full x)]) ∧ ∃ o n, w2 = ext w' o n) := fun w' h => by
    rw [hl1.out, hh1.out]; exact span_any x _ w' h Hwx.out hlx
  have sy : ∀ w', FS w' (.slice (some ⟨b, 0, none⟩) y.ws.length cb) y.ws → Calls Try.prog 194 #[.agg #[.slice (some ⟨b, 0, none⟩) y.ws.length cb, .int .i64 y.off, .int .i64 y.rows, .int .i64 y.cols, .int .i64 y.ld]] w' (fun e w2 => e = .returned (.tuple #[.int .i64 l2, .int .i64 h2, .bool (MatM.full y)]) ∧ ∃ o n, w2 = ext w' o n) := fun w' h => by
    rw [hl2.out, hh2.out]; exact span_any y _ w' h Hwy.out hly
  have px : MatM.full x = true → 0 < x.ws.length := fun h => by have := MatM.full_place h; omega
  have py : MatM.full y = true → 0 < y.ws.length := fun h => by have := MatM.full_place h; omega
  cases fx : MatM.full x
  · have q := hid (show meetM x y (decide (a = b)) = false by rw [hM, fx]; rfl)
    clear hM px py hne
    go_enter Try.func136, Try.ntmps136
    refine seq_stop ?_
    go_wp2
    refine stop_go (fun W hW => ?_)
    have s1 : w.heap.size < W.heap.size := by rw [hW]; simp only [World.size_alloc]; omega
    have b1 : ∀ i, W.cell? ⟨w.heap.size, i, none⟩ = (#[.slice (some ⟨a, 0, none⟩) x.ws.length ca, .int .i64 x.off, .int .i64 x.rows, .int .i64 x.cols, .int .i64 x.ld] : Array Value)[i]? := by intro i; rw [hW]; go_simp
    have s2 : w.heap.size + 1 < W.heap.size := by rw [hW]; simp only [World.size_alloc]; omega
    have b2 : ∀ i, W.cell? ⟨w.heap.size + 1, i, none⟩ = (#[.slice (some ⟨b, 0, none⟩) y.ws.length cb, .int .i64 y.off, .int .i64 y.rows, .int .i64 y.cols, .int .i64 y.ld] : Array Value)[i]? := by intro i; rw [hW]; go_simp
    have g0 : Grew w W := by rw [hW]; exact ((Grew.refl _).alloc _).alloc _
    clear hW
    have hAW := hA.grew g0
    have hBW := hB.grew g0
    go_wp2_with (first | (go_at_call 194; ((with_reducible refine (sx _ ?_).mono ?_); (focus (first | (with_reducible assumption) | (with_reducible refine FS.ext ?_ _ _; with_reducible assumption) | (with_reducible refine IS.ext ?_ _ _; with_reducible assumption) | (refine hDu _ ?_; with_reducible assumption) | (refine hOu _ ?_; with_reducible assumption) | (refine hDa _ ?_; with_reducible assumption) | (refine hDb _ ?_; with_reducible assumption) | (refine hDc _ ?_; with_reducible assumption) | (refine hDd _ ?_; with_reducible assumption) | (refine FW.fs ?_ (by omega) _; with_reducible assumption) | (refine WS.fs ?_; with_reducible assumption) | (refine FW.fs ?_ (by omega) _; assumption) | omega | assumption)); rintro e w1 ⟨rfl, o1, n1, rfl⟩)) | (go_at_call 194; ((with_reducible refine (sy _ ?_).mono ?_); (focus (first | (with_reducible assumption) | (with_reducible refine FS.ext ?_ _ _; with_reducible assumption) | (with_reducible refine IS.ext ?_ _ _; with_reducible assumption) | (refine hDu _ ?_; with_reducible assumption) | (refine hOu _ ?_; with_reducible assumption) | (refine hDa _ ?_; with_reducible assumption) | (refine hDb _ ?_; with_reducible assumption) | (refine hDc _ ?_; with_reducible assumption) | (refine hDd _ ?_; with_reducible assumption) | (refine FW.fs ?_ (by omega) _; with_reducible assumption) | (refine WS.fs ?_; with_reducible assumption) | (refine FW.fs ?_ (by omega) _; assumption) | omega | assumption)); rintro e w1 ⟨rfl, o2, n2, rfl⟩)))
    skip
    refine wp_region_R (Grew W) [] [(0,0), (0,1), (0,2), (0,3), (0,4), (0,5), (0,6), (0,7), (0,8), (0,9), (0,10), (0,11), (0,12), (0,13), (0,14), (0,15), (0,16), (0,17), (0,18), (0,19), (0,20), (0,21), (0,22), (0,23)] (by kernel_rfl) (by kernel_rfl) (fun _ _ _ _ h _ => h) (by first | exact ⟨_, _, ext_drew⟩ | exact ⟨_, _, drew_ext0⟩ | (show Grew _ _; repeat (first | (with_reducible exact Grew.refl _) | (with_reducible assumption) | (with_reducible exact Grew.same_o) | (with_reducible exact Grew.app_o) | (with_reducible refine Grew.ext ?_ _ _) | (with_reducible refine Grew.alloc ?_ _) | ((with_reducible refine Grew.setCell ?_ ?_ _); rotate_left; (focus (dsimp only; first | omega | (simp only [size_ext, World.size_alloc, Array.size_append]; omega)))) | (with_reducible refine Grew.drewN ?_ _) | (with_reducible refine Grew.drew ?_)))) ?_
    go_wp2_with (first | ((with_reducible refine wpR_id ?_); first | (refine wpR_take (v := ?_) rfl rfl ?_ ?_; rotate_left; (focus (rintro w' ⟨o', n', rfl⟩; go_simp; try with_reducible rfl)); simp only [Act.put, List.setIfInBounds_toArray, List.set_cons_zero, List.set_cons_succ]) | (refine wpR_pure (v := ?_) rfl rfl ?_ ?_; rotate_left; (focus (intro w'; go_simp; try with_reducible rfl)); simp only [Act.put, List.setIfInBounds_toArray, List.set_cons_zero, List.set_cons_succ]) | (refine wpR_takeG (v := ?_) rfl rfl rfl rfl rfl ?_ ?_; rotate_left; (focus (rintro w' ⟨o', n', rfl⟩; go_simp; try with_reducible rfl)); simp only [Act.put, List.setIfInBounds_toArray, List.set_cons_zero, List.set_cons_succ]) | (refine wpR_skip rfl rfl rfl rfl rfl rfl ?_; simp only [Act.put, List.setIfInBounds_toArray, List.set_cons_zero, List.set_cons_succ]) | (refine wpR_skipU rfl rfl rfl rfl rfl ?_; simp only [Act.put, List.setIfInBounds_toArray, List.set_cons_zero, List.set_cons_succ]) | (refine wpR_do rfl rfl (fun K hK => ?_)) | (refine wpR_doG rfl rfl rfl rfl rfl (fun K hK => ?_)) | (refine wpR_last rfl rfl (fun K hK => ?_)) | (refine wpR_nil ?_)) | ((with_reducible refine wpR_go ?_ ?_); (focus exact ⟨_, _, rfl⟩)) | ((with_reducible refine upon_id ?_); refine upon_fop rfl (by assumption) (by assumption) ?_; intro rr nn hr))
    go_ret
    exact ⟨ret_bool q.out.symm, by (show Grew _ _; repeat (first | (with_reducible exact Grew.refl _) | (with_reducible assumption) | (with_reducible exact Grew.same_o) | (with_reducible exact Grew.app_o) | (with_reducible refine Grew.ext ?_ _ _) | (with_reducible refine Grew.alloc ?_ _) | ((with_reducible refine Grew.setCell ?_ ?_ _); rotate_left; (focus (dsimp only; first | omega | (simp only [size_ext, World.size_alloc, Array.size_append]; omega)))) | (with_reducible refine Grew.drewN ?_ _) | (with_reducible refine Grew.drew ?_)))⟩
  · cases fy : MatM.full y
    · have q := hid (show meetM x y (decide (a = b)) = false by rw [hM, fx, fy]; rfl)
      clear hM px py hne
      go_enter Try.func136, Try.ntmps136
      refine seq_stop ?_
      go_wp2
      refine stop_go (fun W hW => ?_)
      have s1 : w.heap.size < W.heap.size := by rw [hW]; simp only [World.size_alloc]; omega
      have b1 : ∀ i, W.cell? ⟨w.heap.size, i, none⟩ = (#[.slice (some ⟨a, 0, none⟩) x.ws.length ca, .int .i64 x.off, .int .i64 x.rows, .int .i64 x.cols, .int .i64 x.ld] : Array Value)[i]? := by intro i; rw [hW]; go_simp
      have s2 : w.heap.size + 1 < W.heap.size := by rw [hW]; simp only [World.size_alloc]; omega
      have b2 : ∀ i, W.cell? ⟨w.heap.size + 1, i, none⟩ = (#[.slice (some ⟨b, 0, none⟩) y.ws.length cb, .int .i64 y.off, .int .i64 y.rows, .int .i64 y.cols, .int .i64 y.ld] : Array Value)[i]? := by intro i; rw [hW]; go_simp
      have g0 : Grew w W := by rw [hW]; exact ((Grew.refl _).alloc _).alloc _
      clear hW
      have hAW := hA.grew g0
      have hBW := hB.grew g0
      go_wp2_with (first | (go_at_call 194; ((with_reducible refine (sx _ ?_).mono ?_); (focus (first | (with_reducible assumption) | (with_reducible refine FS.ext ?_ _ _; with_reducible assumption) | (with_reducible refine IS.ext ?_ _ _; with_reducible assumption) | (refine hDu _ ?_; with_reducible assumption) | (refine hOu _ ?_; with_reducible assumption) | (refine hDa _ ?_; with_reducible assumption) | (refine hDb _ ?_; with_reducible assumption) | (refine hDc _ ?_; with_reducible assumption) | (refine hDd _ ?_; with_reducible assumption) | (refine FW.fs ?_ (by omega) _; with_reducible assumption) | (refine WS.fs ?_; with_reducible assumption) | (refine FW.fs ?_ (by omega) _; assumption) | omega | assumption)); rintro e w1 ⟨rfl, o1, n1, rfl⟩)) | (go_at_call 194; ((with_reducible refine (sy _ ?_).mono ?_); (focus (first | (with_reducible assumption) | (with_reducible refine FS.ext ?_ _ _; with_reducible assumption) | (with_reducible refine IS.ext ?_ _ _; with_reducible assumption) | (refine hDu _ ?_; with_reducible assumption) | (refine hOu _ ?_; with_reducible assumption) | (refine hDa _ ?_; with_reducible assumption) | (refine hDb _ ?_; with_reducible assumption) | (refine hDc _ ?_; with_reducible assumption) | (refine hDd _ ?_; with_reducible assumption) | (refine FW.fs ?_ (by omega) _; with_reducible assumption) | (refine WS.fs ?_; with_reducible assumption) | (refine FW.fs ?_ (by omega) _; assumption) | omega | assumption)); rintro e w1 ⟨rfl, o2, n2, rfl⟩)))
      skip
      refine wp_region_R (Grew W) [] [(0,0), (0,1), (0,2), (0,3), (0,4), (0,5), (0,6), (0,7), (0,8), (0,9), (0,10), (0,11), (0,12), (0,13), (0,14), (0,15), (0,16), (0,17), (0,18), (0,19), (0,20), (0,21), (0,22), (0,23)] (by kernel_rfl) (by kernel_rfl) (fun _ _ _ _ h _ => h) (by first | exact ⟨_, _, ext_drew⟩ | exact ⟨_, _, drew_ext0⟩ | (show Grew _ _; repeat (first | (with_reducible exact Grew.refl _) | (with_reducible assumption) | (with_reducible exact Grew.same_o) | (with_reducible exact Grew.app_o) | (with_reducible refine Grew.ext ?_ _ _) | (with_reducible refine Grew.alloc ?_ _) | ((with_reducible refine Grew.setCell ?_ ?_ _); rotate_left; (focus (dsimp only; first | omega | (simp only [size_ext, World.size_alloc, Array.size_append]; omega)))) | (with_reducible refine Grew.drewN ?_ _) | (with_reducible refine Grew.drew ?_)))) ?_
      go_wp2_with (first | ((with_reducible refine wpR_id ?_); first | (refine wpR_take (v := ?_) rfl rfl ?_ ?_; rotate_left; (focus (rintro w' ⟨o', n', rfl⟩; go_simp; try with_reducible rfl)); simp only [Act.put, List.setIfInBounds_toArray, List.set_cons_zero, List.set_cons_succ]) | (refine wpR_pure (v := ?_) rfl rfl ?_ ?_; rotate_left; (focus (intro w'; go_simp; try with_reducible rfl)); simp only [Act.put, List.setIfInBounds_toArray, List.set_cons_zero, List.set_cons_succ]) | (refine wpR_takeG (v := ?_) rfl rfl rfl rfl rfl ?_ ?_; rotate_left; (focus (rintro w' ⟨o', n', rfl⟩; go_simp; try with_reducible rfl)); simp only [Act.put, List.setIfInBounds_toArray, List.set_cons_zero, List.set_cons_succ]) | (refine wpR_skip rfl rfl rfl rfl rfl rfl ?_; simp only [Act.put, List.setIfInBounds_toArray, List.set_cons_zero, List.set_cons_succ]) | (refine wpR_skipU rfl rfl rfl rfl rfl ?_; simp only [Act.put, List.setIfInBounds_toArray, List.set_cons_zero, List.set_cons_succ]) | (refine wpR_do rfl rfl (fun K hK => ?_)) | (refine wpR_doG rfl rfl rfl rfl rfl (fun K hK => ?_)) | (refine wpR_last rfl rfl (fun K hK => ?_)) | (refine wpR_nil ?_)) | ((with_reducible refine wpR_go ?_ ?_); (focus exact ⟨_, _, rfl⟩)) | ((with_reducible refine upon_id ?_); refine upon_fop rfl (by assumption) (by assumption) ?_; intro rr nn hr))
      go_ret
      exact ⟨ret_bool q.out.symm, by (show Grew _ _; repeat (first | (with_reducible exact Grew.refl _) | (with_reducible assumption) | (with_reducible exact Grew.same_o) | (with_reducible exact Grew.app_o) | (with_reducible refine Grew.ext ?_ _ _) | (with_reducible refine Grew.alloc ?_ _) | ((with_reducible refine Grew.setCell ?_ ?_ _); rotate_left; (focus (dsimp only; first | omega | (simp only [size_ext, World.size_alloc, Array.size_append]; omega)))) | (with_reducible refine Grew.drewN ?_ _) | (with_reducible refine Grew.drew ?_)))⟩
    · have lx := px fx
      have ly := py fy
      by_cases hab : a = b
      · have hpe : ∀ W', (binOp .eql 142 (.pointer (some ⟨a, 0, none⟩)) (.pointer (some ⟨b, 0, none⟩))).run Try.prog W' = .ok (.bool true) W' := fun W' => by subst hab; exact eql_same W' _
        by_cases c1 : l1 ≤ h2
        · by_cases c2 : l2 ≤ h1
          · have q := hid (show meetM x y (decide (a = b)) = true by rw [hM, fx, fy]; simp [c1, c2, hab])
            have d1 : decide (l1 ≤ h2) = true := by simpa using c1
            have d2 : decide (l2 ≤ h1) = true := by simpa using c2
            clear hM px py hne hab
            go_enter Try.func136, Try.ntmps136
            refine seq_stop ?_
            go_wp2
            refine stop_go (fun W hW => ?_)
            have s1 : w.heap.size < W.heap.size := by rw [hW]; simp only [World.size_alloc]; omega
            have b1 : ∀ i, W.cell? ⟨w.heap.size, i, none⟩ = (#[.slice (some ⟨a, 0, none⟩) x.ws.length ca, .int .i64 x.off, .int .i64 x.rows, .int .i64 x.cols, .int .i64 x.ld] : Array Value)[i]? := by intro i; rw [hW]; go_simp
            have s2 : w.heap.size + 1 < W.heap.size := by rw [hW]; simp only [World.size_alloc]; omega
            have b2 : ∀ i, W.cell? ⟨w.heap.size + 1, i, none⟩ = (#[.slice (some ⟨b, 0, none⟩) y.ws.length cb, .int .i64 y.off, .int .i64 y.rows, .int .i64 y.cols, .int .i64 y.ld] : Array Value)[i]? := by intro i; rw [hW]; go_simp
            have g0 : Grew w W := by rw [hW]; exact ((Grew.refl _).alloc _).alloc _
            clear hW
            have hAW := hA.grew g0
            have hBW := hB.grew g0
            go_wp2_with (first | (go_at_call 194; ((with_reducible refine (sx _ ?_).mono ?_); (focus (first | (with_reducible assumption) | (with_reducible refine FS.ext ?_ _ _; with_reducible assumption) | (with_reducible refine IS.ext ?_ _ _; with_reducible assumption) | (refine hDu _ ?_; with_reducible assumption) | (refine hOu _ ?_; with_reducible assumption) | (refine hDa _ ?_; with_reducible assumption) | (refine hDb _ ?_; with_reducible assumption) | (refine hDc _ ?_; with_reducible assumption) | (refine hDd _ ?_; with_reducible assumption) | (refine FW.fs ?_ (by omega) _; with_reducible assumption) | (refine WS.fs ?_; with_reducible assumption) | (refine FW.fs ?_ (by omega) _; assumption) | omega | assumption)); rintro e w1 ⟨rfl, o1, n1, rfl⟩)) | (go_at_call 194; ((with_reducible refine (sy _ ?_).mono ?_); (focus (first | (with_reducible assumption) | (with_reducible refine FS.ext ?_ _ _; with_reducible assumption) | (with_reducible refine IS.ext ?_ _ _; with_reducible assumption) | (refine hDu _ ?_; with_reducible assumption) | (refine hOu _ ?_; with_reducible assumption) | (refine hDa _ ?_; with_reducible assumption) | (refine hDb _ ?_; with_reducible assumption) | (refine hDc _ ?_; with_reducible assumption) | (refine hDd _ ?_; with_reducible assumption) | (refine FW.fs ?_ (by omega) _; with_reducible assumption) | (refine WS.fs ?_; with_reducible assumption) | (refine FW.fs ?_ (by omega) _; assumption) | omega | assumption)); rintro e w1 ⟨rfl, o2, n2, rfl⟩)))
            skip
            refine wp_region_R (Grew W) [] [(0,0), (0,1), (0,2), (0,3), (0,4), (0,5), (0,6), (0,7), (0,8), (0,9), (0,10), (0,11), (0,12), (0,13), (0,14), (0,15), (0,16), (0,17), (0,18), (0,19), (0,20), (0,21), (0,22), (0,23)] (by kernel_rfl) (by kernel_rfl) (fun _ _ _ _ h _ => h) (by first | exact ⟨_, _, ext_drew⟩ | exact ⟨_, _, drew_ext0⟩ | (show Grew _ _; repeat (first | (with_reducible exact Grew.refl _) | (with_reducible assumption) | (with_reducible exact Grew.same_o) | (with_reducible exact Grew.app_o) | (with_reducible refine Grew.ext ?_ _ _) | (with_reducible refine Grew.alloc ?_ _) | ((with_reducible refine Grew.setCell ?_ ?_ _); rotate_left; (focus (dsimp only; first | omega | (simp only [size_ext, World.size_alloc, Array.size_append]; omega)))) | (with_reducible refine Grew.drewN ?_ _) | (with_reducible refine Grew.drew ?_)))) ?_
            go_wp2_with (first | ((with_reducible refine wpR_id ?_); first | (refine wpR_take (v := ?_) rfl rfl ?_ ?_; rotate_left; (focus (rintro w' ⟨o', n', rfl⟩; go_simp; try with_reducible rfl)); simp only [Act.put, List.setIfInBounds_toArray, List.set_cons_zero, List.set_cons_succ]) | (refine wpR_pure (v := ?_) rfl rfl ?_ ?_; rotate_left; (focus (intro w'; go_simp; try with_reducible rfl)); simp only [Act.put, List.setIfInBounds_toArray, List.set_cons_zero, List.set_cons_succ]) | (refine wpR_takeG (v := ?_) rfl rfl rfl rfl rfl ?_ ?_; rotate_left; (focus (rintro w' ⟨o', n', rfl⟩; go_simp; try with_reducible rfl)); simp only [Act.put, List.setIfInBounds_toArray, List.set_cons_zero, List.set_cons_succ]) | (refine wpR_skip rfl rfl rfl rfl rfl rfl ?_; simp only [Act.put, List.setIfInBounds_toArray, List.set_cons_zero, List.set_cons_succ]) | (refine wpR_skipU rfl rfl rfl rfl rfl ?_; simp only [Act.put, List.setIfInBounds_toArray, List.set_cons_zero, List.set_cons_succ]) | (refine wpR_do rfl rfl (fun K hK => ?_)) | (refine wpR_doG rfl rfl rfl rfl rfl (fun K hK => ?_)) | (refine wpR_last rfl rfl (fun K hK => ?_)) | (refine wpR_nil ?_)) | ((with_reducible refine wpR_go ?_ ?_); (focus exact ⟨_, _, rfl⟩)) | ((with_reducible refine upon_id ?_); refine upon_fop rfl (by assumption) (by assumption) ?_; intro rr nn hr))
            go_ret
            exact ⟨ret_bool q.out.symm, by (show Grew _ _; repeat (first | (with_reducible exact Grew.refl _) | (with_reducible assumption) | (with_reducible exact Grew.same_o) | (with_reducible exact Grew.app_o) | (with_reducible refine Grew.ext ?_ _ _) | (with_reducible refine Grew.alloc ?_ _) | ((with_reducible refine Grew.setCell ?_ ?_ _); rotate_left; (focus (dsimp only; first | omega | (simp only [size_ext, World.size_alloc, Array.size_append]; omega)))) | (with_reducible refine Grew.drewN ?_ _) | (with_reducible refine Grew.drew ?_)))⟩
          · have q := hid (show meetM x y (decide (a = b)) = false by rw [hM, fx, fy]; simp [c2])
            have d1 : decide (l1 ≤ h2) = true := by simpa using c1
            have d2 : decide (l2 ≤ h1) = false := by simpa using c2
            clear hM px py hne hab
            go_enter Try.func136, Try.ntmps136
            refine seq_stop ?_
            go_wp2
            refine stop_go (fun W hW => ?_)
            have s1 : w.heap.size < W.heap.size := by rw [hW]; simp only [World.size_alloc]; omega
            have b1 : ∀ i, W.cell? ⟨w.heap.size, i, none⟩ = (#[.slice (some ⟨a, 0, none⟩) x.ws.length ca, .int .i64 x.off, .int .i64 x.rows, .int .i64 x.cols, .int .i64 x.ld] : Array Value)[i]? := by intro i; rw [hW]; go_simp
            have s2 : w.heap.size + 1 < W.heap.size := by rw [hW]; simp only [World.size_alloc]; omega
            have b2 : ∀ i, W.cell? ⟨w.heap.size + 1, i, none⟩ = (#[.slice (some ⟨b, 0, none⟩) y.ws.length cb, .int .i64 y.off, .int .i64 y.rows, .int .i64 y.cols, .int .i64 y.ld] : Array Value)[i]? := by intro i; rw [hW]; go_simp
            have g0 : Grew w W := by rw [hW]; exact ((Grew.refl _).alloc _).alloc _
            clear hW
            have hAW := hA.grew g0
            have hBW := hB.grew g0
            go_wp2_with (first | (go_at_call 194; ((with_reducible refine (sx _ ?_).mono ?_); (focus (first | (with_reducible assumption) | (with_reducible refine FS.ext ?_ _ _; with_reducible assumption) | (with_reducible refine IS.ext ?_ _ _; with_reducible assumption) | (refine hDu _ ?_; with_reducible assumption) | (refine hOu _ ?_; with_reducible assumption) | (refine hDa _ ?_; with_reducible assumption) | (refine hDb _ ?_; with_reducible assumption) | (refine hDc _ ?_; with_reducible assumption) | (refine hDd _ ?_; with_reducible assumption) | (refine FW.fs ?_ (by omega) _; with_reducible assumption) | (refine WS.fs ?_; with_reducible assumption) | (refine FW.fs ?_ (by omega) _; assumption) | omega | assumption)); rintro e w1 ⟨rfl, o1, n1, rfl⟩)) | (go_at_call 194; ((with_reducible refine (sy _ ?_).mono ?_); (focus (first | (with_reducible assumption) | (with_reducible refine FS.ext ?_ _ _; with_reducible assumption) | (with_reducible refine IS.ext ?_ _ _; with_reducible assumption) | (refine hDu _ ?_; with_reducible assumption) | (refine hOu _ ?_; with_reducible assumption) | (refine hDa _ ?_; with_reducible assumption) | (refine hDb _ ?_; with_reducible assumption) | (refine hDc _ ?_; with_reducible assumption) | (refine hDd _ ?_; with_reducible assumption) | (refine FW.fs ?_ (by omega) _; with_reducible assumption) | (refine WS.fs ?_; with_reducible assumption) | (refine FW.fs ?_ (by omega) _; assumption) | omega | assumption)); rintro e w1 ⟨rfl, o2, n2, rfl⟩)))
            skip
            refine wp_region_R (Grew W) [] [(0,0), (0,1), (0,2), (0,3), (0,4), (0,5), (0,6), (0,7), (0,8), (0,9), (0,10), (0,11), (0,12), (0,13), (0,14), (0,15), (0,16), (0,17), (0,18), (0,19), (0,20), (0,21), (0,22), (0,23)] (by kernel_rfl) (by kernel_rfl) (fun _ _ _ _ h _ => h) (by first | exact ⟨_, _, ext_drew⟩ | exact ⟨_, _, drew_ext0⟩ | (show Grew _ _; repeat (first | (with_reducible exact Grew.refl _) | (with_reducible assumption) | (with_reducible exact Grew.same_o) | (with_reducible exact Grew.app_o) | (with_reducible refine Grew.ext ?_ _ _) | (with_reducible refine Grew.alloc ?_ _) | ((with_reducible refine Grew.setCell ?_ ?_ _); rotate_left; (focus (dsimp only; first | omega | (simp only [size_ext, World.size_alloc, Array.size_append]; omega)))) | (with_reducible refine Grew.drewN ?_ _) | (with_reducible refine Grew.drew ?_)))) ?_
            go_wp2_with (first | ((with_reducible refine wpR_id ?_); first | (refine wpR_take (v := ?_) rfl rfl ?_ ?_; rotate_left; (focus (rintro w' ⟨o', n', rfl⟩; go_simp; try with_reducible rfl)); simp only [Act.put, List.setIfInBounds_toArray, List.set_cons_zero, List.set_cons_succ]) | (refine wpR_pure (v := ?_) rfl rfl ?_ ?_; rotate_left; (focus (intro w'; go_simp; try with_reducible rfl)); simp only [Act.put, List.setIfInBounds_toArray, List.set_cons_zero, List.set_cons_succ]) | (refine wpR_takeG (v := ?_) rfl rfl rfl rfl rfl ?_ ?_; rotate_left; (focus (rintro w' ⟨o', n', rfl⟩; go_simp; try with_reducible rfl)); simp only [Act.put, List.setIfInBounds_toArray, List.set_cons_zero, List.set_cons_succ]) | (refine wpR_skip rfl rfl rfl rfl rfl rfl ?_; simp only [Act.put, List.setIfInBounds_toArray, List.set_cons_zero, List.set_cons_succ]) | (refine wpR_skipU rfl rfl rfl rfl rfl ?_; simp only [Act.put, List.setIfInBounds_toArray, List.set_cons_zero, List.set_cons_succ]) | (refine wpR_do rfl rfl (fun K hK => ?_)) | (refine wpR_doG rfl rfl rfl rfl rfl (fun K hK => ?_)) | (refine wpR_last rfl rfl (fun K hK => ?_)) | (refine wpR_nil ?_)) | ((with_reducible refine wpR_go ?_ ?_); (focus exact ⟨_, _, rfl⟩)) | ((with_reducible refine upon_id ?_); refine upon_fop rfl (by assumption) (by assumption) ?_; intro rr nn hr))
            go_ret
            exact ⟨ret_bool q.out.symm, by (show Grew _ _; repeat (first | (with_reducible exact Grew.refl _) | (with_reducible assumption) | (with_reducible exact Grew.same_o) | (with_reducible exact Grew.app_o) | (with_reducible refine Grew.ext ?_ _ _) | (with_reducible refine Grew.alloc ?_ _) | ((with_reducible refine Grew.setCell ?_ ?_ _); rotate_left; (focus (dsimp only; first | omega | (simp only [size_ext, World.size_alloc, Array.size_append]; omega)))) | (with_reducible refine Grew.drewN ?_ _) | (with_reducible refine Grew.drew ?_)))⟩
        · have q := hid (show meetM x y (decide (a = b)) = false by rw [hM, fx, fy]; simp [c1])
          have d1 : decide (l1 ≤ h2) = false := by simpa using c1
          clear hM px py hne hab
          go_enter Try.func136, Try.ntmps136
          refine seq_stop ?_
          go_wp2
          refine stop_go (fun W hW => ?_)
          have s1 : w.heap.size < W.heap.size := by rw [hW]; simp only [World.size_alloc]; omega
          have b1 : ∀ i, W.cell? ⟨w.heap.size, i, none⟩ = (#[.slice (some ⟨a, 0, none⟩) x.ws.length ca, .int .i64 x.off, .int .i64 x.rows, .int .i64 x.cols, .int .i64 x.ld] : Array Value)[i]? := by intro i; rw [hW]; go_simp
          have s2 : w.heap.size + 1 < W.heap.size := by rw [hW]; simp only [World.size_alloc]; omega
          have b2 : ∀ i, W.cell? ⟨w.heap.size + 1, i, none⟩ = (#[.slice (some ⟨b, 0, none⟩) y.ws.length cb, .int .i64 y.off, .int .i64 y.rows, .int .i64 y.cols, .int .i64 y.ld] : Array Value)[i]? := by intro i; rw [hW]; go_simp
          have g0 : Grew w W := by rw [hW]; exact ((Grew.refl _).alloc _).alloc _
          clear hW
          have hAW := hA.grew g0
          have hBW := hB.grew g0
          go_wp2_with (first | (go_at_call 194; ((with_reducible refine (sx _ ?_).mono ?_); (focus (first | (with_reducible assumption) | (with_reducible refine FS.ext ?_ _ _; with_reducible assumption) | (with_reducible refine IS.ext ?_ _ _; with_reducible assumption) | (refine hDu _ ?_; with_reducible assumption) | (refine hOu _ ?_; with_reducible assumption) | (refine hDa _ ?_; with_reducible assumption) | (refine hDb _ ?_; with_reducible assumption) | (refine hDc _ ?_; with_reducible assumption) | (refine hDd _ ?_; with_reducible assumption) | (refine FW.fs ?_ (by omega) _; with_reducible assumption) | (refine WS.fs ?_; with_reducible assumption) | (refine FW.fs ?_ (by omega) _; assumption) | omega | assumption)); rintro e w1 ⟨rfl, o1, n1, rfl⟩)) | (go_at_call 194; ((with_reducible refine (sy _ ?_).mono ?_); (focus (first | (with_reducible assumption) | (with_reducible refine FS.ext ?_ _ _; with_reducible assumption) | (with_reducible refine IS.ext ?_ _ _; with_reducible assumption) | (refine hDu _ ?_; with_reducible assumption) | (refine hOu _ ?_; with_reducible assumption) | (refine hDa _ ?_; with_reducible assumption) | (refine hDb _ ?_; with_reducible assumption) | (refine hDc _ ?_; with_reducible assumption) | (refine hDd _ ?_; with_reducible assumption) | (refine FW.fs ?_ (by omega) _; with_reducible assumption) | (refine WS.fs ?_; with_reducible assumption) | (refine FW.fs ?_ (by omega) _; assumption) | omega | assumption)); rintro e w1 ⟨rfl, o2, n2, rfl⟩)))
          skip
          refine wp_region_R (Grew W) [] [(0,0), (0,1), (0,2), (0,3), (0,4), (0,5), (0,6), (0,7), (0,8), (0,9), (0,10), (0,11), (0,12), (0,13), (0,14), (0,15), (0,16), (0,17), (0,18), (0,19), (0,20), (0,21), (0,22), (0,23)] (by kernel_rfl) (by kernel_rfl) (fun _ _ _ _ h _ => h) (by first | exact ⟨_, _, ext_drew⟩ | exact ⟨_, _, drew_ext0⟩ | (show Grew _ _; repeat (first | (with_reducible exact Grew.refl _) | (with_reducible assumption) | (with_reducible exact Grew.same_o) | (with_reducible exact Grew.app_o) | (with_reducible refine Grew.ext ?_ _ _) | (with_reducible refine Grew.alloc ?_ _) | ((with_reducible refine Grew.setCell ?_ ?_ _); rotate_left; (focus (dsimp only; first | omega | (simp only [size_ext, World.size_alloc, Array.size_append]; omega)))) | (with_reducible refine Grew.drewN ?_ _) | (with_reducible refine Grew.drew ?_)))) ?_
          go_wp2_with (first | ((with_reducible refine wpR_id ?_); first | (refine wpR_take (v := ?_) rfl rfl ?_ ?_; rotate_left; (focus (rintro w' ⟨o', n', rfl⟩; go_simp; try with_reducible rfl)); simp only [Act.put, List.setIfInBounds_toArray, List.set_cons_zero, List.set_cons_succ]) | (refine wpR_pure (v := ?_) rfl rfl ?_ ?_; rotate_left; (focus (intro w'; go_simp; try with_reducible rfl)); simp only [Act.put, List.setIfInBounds_toArray, List.set_cons_zero, List.set_cons_succ]) | (refine wpR_takeG (v := ?_) rfl rfl rfl rfl rfl ?_ ?_; rotate_left; (focus (rintro w' ⟨o', n', rfl⟩; go_simp; try with_reducible rfl)); simp only [Act.put, List.setIfInBounds_toArray, List.set_cons_zero, List.set_cons_succ]) | (refine wpR_skip rfl rfl rfl rfl rfl rfl ?_; simp only [Act.put, List.setIfInBounds_toArray, List.set_cons_zero, List.set_cons_succ]) | (refine wpR_skipU rfl rfl rfl rfl rfl ?_; simp only [Act.put, List.setIfInBounds_toArray, List.set_cons_zero, List.set_cons_succ]) | (refine wpR_do rfl rfl (fun K hK => ?_)) | (refine wpR_doG rfl rfl rfl rfl rfl (fun K hK => ?_)) | (refine wpR_last rfl rfl (fun K hK => ?_)) | (refine wpR_nil ?_)) | ((with_reducible refine wpR_go ?_ ?_); (focus exact ⟨_, _, rfl⟩)) | ((with_reducible refine upon_id ?_); refine upon_fop rfl (by assumption) (by assumption) ?_; intro rr nn hr))
          go_ret
          exact ⟨ret_bool q.out.symm, by (show Grew _ _; repeat (first | (with_reducible exact Grew.refl _) | (with_reducible assumption) | (with_reducible exact Grew.same_o) | (with_reducible exact Grew.app_o) | (with_reducible refine Grew.ext ?_ _ _) | (with_reducible refine Grew.alloc ?_ _) | ((with_reducible refine Grew.setCell ?_ ?_ _); rotate_left; (focus (dsimp only; first | omega | (simp only [size_ext, World.size_alloc, Array.size_append]; omega)))) | (with_reducible refine Grew.drewN ?_ _) | (with_reducible refine Grew.drew ?_)))⟩
      · have q := hid (show meetM x y (decide (a = b)) = false by rw [hM]; simp [hab])
        clear hM px py
        go_enter Try.func136, Try.ntmps136
        refine seq_stop ?_
        go_wp2
        refine stop_go (fun W hW => ?_)
        have s1 : w.heap.size < W.heap.size := by rw [hW]; simp only [World.size_alloc]; omega
        have b1 : ∀ i, W.cell? ⟨w.heap.size, i, none⟩ = (#[.slice (some ⟨a, 0, none⟩) x.ws.length ca, .int .i64 x.off, .int .i64 x.rows, .int .i64 x.cols, .int .i64 x.ld] : Array Value)[i]? := by intro i; rw [hW]; go_simp
        have s2 : w.heap.size + 1 < W.heap.size := by rw [hW]; simp only [World.size_alloc]; omega
        have b2 : ∀ i, W.cell? ⟨w.heap.size + 1, i, none⟩ = (#[.slice (some ⟨b, 0, none⟩) y.ws.length cb, .int .i64 y.off, .int .i64 y.rows, .int .i64 y.cols, .int .i64 y.ld] : Array Value)[i]? := by intro i; rw [hW]; go_simp
        have g0 : Grew w W := by rw [hW]; exact ((Grew.refl _).alloc _).alloc _
        clear hW
        have hAW := hA.grew g0
        have hBW := hB.grew g0
        go_wp2_with (first | (go_at_call 194; ((with_reducible refine (sx _ ?_).mono ?_); (focus (first | (with_reducible assumption) | (with_reducible refine FS.ext ?_ _ _; with_reducible assumption) | (with_reducible refine IS.ext ?_ _ _; with_reducible assumption) | (refine hDu _ ?_; with_reducible assumption) | (refine hOu _ ?_; with_reducible assumption) | (refine hDa _ ?_; with_reducible assumption) | (refine hDb _ ?_; with_reducible assumption) | (refine hDc _ ?_; with_reducible assumption) | (refine hDd _ ?_; with_reducible assumption) | (refine FW.fs ?_ (by omega) _; with_reducible assumption) | (refine WS.fs ?_; with_reducible assumption) | (refine FW.fs ?_ (by omega) _; assumption) | omega | assumption)); rintro e w1 ⟨rfl, o1, n1, rfl⟩)) | (go_at_call 194; ((with_reducible refine (sy _ ?_).mono ?_); (focus (first | (with_reducible assumption) | (with_reducible refine FS.ext ?_ _ _; with_reducible assumption) | (with_reducible refine IS.ext ?_ _ _; with_reducible assumption) | (refine hDu _ ?_; with_reducible assumption) | (refine hOu _ ?_; with_reducible assumption) | (refine hDa _ ?_; with_reducible assumption) | (refine hDb _ ?_; with_reducible assumption) | (refine hDc _ ?_; with_reducible assumption) | (refine hDd _ ?_; with_reducible assumption) | (refine FW.fs ?_ (by omega) _; with_reducible assumption) | (refine WS.fs ?_; with_reducible assumption) | (refine FW.fs ?_ (by omega) _; assumption) | omega | assumption)); rintro e w1 ⟨rfl, o2, n2, rfl⟩)))
        have hnn : ∀ o n, (binOp .eql 142 (.pointer (some ⟨a, 0, none⟩)) (.pointer (some ⟨b, 0, none⟩))).run Try.prog (ext W o n) = .ok (.bool false) (ext W o n) := fun o n => hne _ (g0.ext o n) hab
        refine wp_region_R (Grew W) [] [(0,0), (0,1), (0,2), (0,3), (0,4), (0,5), (0,6), (0,7), (0,8), (0,9), (0,10), (0,11), (0,12), (0,13), (0,14), (0,15), (0,16), (0,17), (0,18), (0,19), (0,20), (0,21), (0,22), (0,23)] (by kernel_rfl) (by kernel_rfl) (fun _ _ _ _ h _ => h) (by first | exact ⟨_, _, ext_drew⟩ | exact ⟨_, _, drew_ext0⟩ | (show Grew _ _; repeat (first | (with_reducible exact Grew.refl _) | (with_reducible assumption) | (with_reducible exact Grew.same_o) | (with_reducible exact Grew.app_o) | (with_reducible refine Grew.ext ?_ _ _) | (with_reducible refine Grew.alloc ?_ _) | ((with_reducible refine Grew.setCell ?_ ?_ _); rotate_left; (focus (dsimp only; first | omega | (simp only [size_ext, World.size_alloc, Array.size_append]; omega)))) | (with_reducible refine Grew.drewN ?_ _) | (with_reducible refine Grew.drew ?_)))) ?_
        go_wp2_with (first | ((with_reducible refine wpR_id ?_); first | (refine wpR_take (v := ?_) rfl rfl ?_ ?_; rotate_left; (focus (rintro w' ⟨o', n', rfl⟩; go_simp; try with_reducible rfl)); simp only [Act.put, List.setIfInBounds_toArray, List.set_cons_zero, List.set_cons_succ]) | (refine wpR_pure (v := ?_) rfl rfl ?_ ?_; rotate_left; (focus (intro w'; go_simp; try with_reducible rfl)); simp only [Act.put, List.setIfInBounds_toArray, List.set_cons_zero, List.set_cons_succ]) | (refine wpR_takeG (v := ?_) rfl rfl rfl rfl rfl ?_ ?_; rotate_left; (focus (rintro w' ⟨o', n', rfl⟩; go_simp; try with_reducible rfl)); simp only [Act.put, List.setIfInBounds_toArray, List.set_cons_zero, List.set_cons_succ]) | (refine wpR_skip rfl rfl rfl rfl rfl rfl ?_; simp only [Act.put, List.setIfInBounds_toArray, List.set_cons_zero, List.set_cons_succ]) | (refine wpR_skipU rfl rfl rfl rfl rfl ?_; simp only [Act.put, List.setIfInBounds_toArray, List.set_cons_zero, List.set_cons_succ]) | (refine wpR_do rfl rfl (fun K hK => ?_)) | (refine wpR_doG rfl rfl rfl rfl rfl (fun K hK => ?_)) | (refine wpR_last rfl rfl (fun K hK => ?_)) | (refine wpR_nil ?_)) | ((with_reducible refine wpR_go ?_ ?_); (focus exact ⟨_, _, rfl⟩)) | ((with_reducible refine upon_id ?_); refine upon_fop rfl (by assumption) (by assumption) ?_; intro rr nn hr))
        go_ret
        exact ⟨ret_bool q.out.symm, by (show Grew _ _; repeat (first | (with_reducible exact Grew.refl _) | (with_reducible assumption) | (with_reducible exact Grew.same_o) | (with_reducible exact Grew.app_o) | (with_reducible refine Grew.ext ?_ _ _) | (with_reducible refine Grew.alloc ?_ _) | ((with_reducible refine Grew.setCell ?_ ?_ _); rotate_left; (focus (dsimp only; first | omega | (simp only [size_ext, World.size_alloc, Array.size_append]; omega)))) | (with_reducible refine Grew.drewN ?_ _) | (with_reducible refine Grew.drew ?_)))⟩
/-- straightedgeref07.Spans. -/
def spansB (a b c d : Int) : Bool := decide (a ≤ b) && decide (c ≤ d) && decide (a ≤ d) && decide (c ≤ b)
theorem spans_any (a b c d : Int) (w : World) : Calls Try.prog 59 #[.int .i64 a, .int .i64 b, .int .i64 c, .int .i64 d] w (fun e w' => e = .returned (.bool (spansB a b c d)) ∧ ∃ o n, w' = ext w o n) := by
  have hW : Grew w w := Grew.refl w
  by_cases c1 : a ≤ b
  · by_cases c2 : c ≤ d
    · by_cases c3 : a ≤ d
      · by_cases c4 : c ≤ b
        · have q := hid (show spansB a b c d = true by unfold spansB; simp [c1, c2, c3, c4])
          go_enter Try.func59, Try.ntmps59
          go_wp2
          go_ret
          exact ⟨ret_bool q.out.symm, ⟨#[], _, ext_zero.symm⟩⟩
        · have q := hid (show spansB a b c d = false by unfold spansB; simp [c4])
          go_enter Try.func59, Try.ntmps59
          go_wp2
          go_ret
          exact ⟨ret_bool q.out.symm, ⟨#[], _, ext_zero.symm⟩⟩
      · have q := hid (show spansB a b c d = false by unfold spansB; simp [c3])
        go_enter Try.func59, Try.ntmps59
        go_wp2
        go_ret
        exact ⟨ret_bool q.out.symm, ⟨#[], _, ext_zero.symm⟩⟩
    · have q := hid (show spansB a b c d = false by unfold spansB; simp [c2])
      go_enter Try.func59, Try.ntmps59
      go_wp2
      go_ret
      exact ⟨ret_bool q.out.symm, ⟨#[], _, ext_zero.symm⟩⟩
  · have q := hid (show spansB a b c d = false by unfold spansB; simp [c1])
    go_enter Try.func59, Try.ntmps59
    go_wp2
    go_ret
    exact ⟨ret_bool q.out.symm, ⟨#[], _, ext_zero.symm⟩⟩
end Go.Proofs.Ytcmggfpcbijcjaa
end
section
/-
  Contracts: straightedgeref01.Make, Scale.
-/
set_option linter.unusedSimpArgs false
set_option linter.unusedVariables false
open Go Go.RowKit Sedge Ieee
namespace Go.Proofs.Ytcmggfpcbijcjaa
def mkF (s : Bool) (m : Nat) (e : Int) : Nat := if m = 0 then D64.word s 0 else D64.nearest s m e
theorem word_false (n : Nat) : D64.word false n = n := by unfold Format.word; simp
theorem word_true (n : Nat) : D64.word true n = 9223372036854775808 + n := by
  show (if true = true then 2 ^ (64 - 1) else 0) + n = _
  simp
theorem isF_word (s : Bool) (n : Nat) (h : n ≤ IR) : IsF (D64.word s n) (D64.word s n) := by
  refine ⟨?_, canon_not (read_word_notnan s n h)⟩
  have hI : IR < 9223372036854775808 := by decide +kernel
  cases s
  · rw [word_false]; omega
  · rw [word_true]; omega
theorem half_eq (n : Nat) : ((n : Int) % 2 == 1) = decide (n % 2 = 1) := by
  rw [Bool.eq_iff_iff, beq_iff_eq, decide_eq_true_eq]; omega
theorem hvM_le (m t : Nat) : hvM m t ≤ m := Nat.div_le_self _ _
set_option maxRecDepth 100000 in
set_option maxHeartbeats 4000000 in
/-- straightedgeref01.Make, of less than 2^53. -/
theorem make_any (s : Bool) (m : Nat) (e : Int) (w : World) (hm : m < 2 ^ 53) (he : -10000 ≤ e ∧ e ≤ 10000) :
   Calls Try.prog 199 #[.bool s, .int .u64 m, .int .i64 e] w (fun e' w' => ∃ r, e' = .returned (.float .f64 r) ∧ IsF r (mkF s m e) ∧ w = w') := by
  have hI : IR = 9218868437227405312 := by decide +kernel
  have HI := hid hI
  have hm' : m < 9007199254740992 := hm
  clear hm hI
  cases s
  · by_cases m0 : m = 0
    · subst m0
      have q : IsF 0 (mkF false 0 e) := by unfold mkF; rw [if_pos rfl]; have := isF_word false 0 (Nat.zero_le _); rwa [word_false] at this
      go_enter Try.func199, Try.ntmps199
      go_wp2
      go_ret
      exact ⟨_, rfl, q, rfl⟩
    · have d1 : ((m : Int) == 0) = false := by rw [beq_eq_false_iff_ne]; omega
      have hmk : mkF false m e = D64.nearest false m e := by unfold mkF; rw [if_neg m0]
      by_cases e1 : e < -1200
      · have d2 : decide (e < -1200) = true := by simpa using e1
        have q : IsF 0 (mkF false m e) := by rw [hmk, nearest_low false m e m0 hm' (by omega)]; have := isF_word false 0 (Nat.zero_le _); rwa [word_false] at this
        clear hmk
        go_enter Try.func199, Try.ntmps199
        go_wp2
        go_ret
        exact ⟨_, rfl, q, rfl⟩
      · have d2 : decide (e < -1200) = false := by simpa using e1
        by_cases e2 : 2000 < e
        · have d3 : decide (2000 < e) = true := by simpa using e2
          have q : IsF (0 + 9218868437227405312) (mkF false m e) := by rw [hmk, nearest_high false m e m0 hm' (by omega)]; have := isF_word false IR (Nat.le_refl _); rw [word_false, HI.out] at this; exact this
          clear hmk
          go_enter Try.func199, Try.ntmps199
          go_wp2
          go_ret
          exact ⟨_, rfl, q, rfl⟩
        · have d3 : decide (2000 < e) = false := by simpa using e2
          rw [hmk]
          have M0 := hid m0
          clear hmk m0
          go_enter Try.func199, Try.ntmps199
          go_upto_block 0 with fail
          go_cut [1, 2] (fun c d wx => ∃ (M : Nat) (E : Int), c = .int .u64 M ∧ d = .int .i64 E ∧ M ≠ 0 ∧ M < 9007199254740992 ∧ -1200 ≤ E ∧ E ≤ 2000 ∧ (4503599627370496 ≤ M ∨ E ≤ -1074) ∧ D64.nearest false M E = D64.nearest false m e ∧ wx = w)
          case first =>
            go_wp2_with fail
            go_loopw [1, 2] (fun c d wr => ∃ (M : Nat) (E : Int), c = .int .u64 M ∧ d = .int .i64 E ∧ M ≠ 0 ∧ M < 9007199254740992 ∧ -1200 ≤ E ∧ E ≤ 2000 ∧ D64.nearest false M E = D64.nearest false m e ∧ wr = w) (fun _ d _ => (intOf d + 2000).toNat)
            case atStart => exact ⟨m, e, rfl, rfl, M0.out, hm', by omega, by omega, rfl, rfl⟩
            case round =>
              obtain ⟨M, E, rfl, rfl, hM0, hM, hE1, hE2, hN, hwr⟩ := hrel
              have HN := hid hN
              have HM0 := hid hM0
              have HW := hid hwr
              clear hN hM0 hwr
              by_cases c1 : (M : Int) < 4503599627370496
              · have b1 : decide ((M : Int) < 4503599627370496) = true := by simpa using c1
                by_cases c2 : -1074 < E
                · have b2 : decide (-1074 < E) = true := by simpa using c2
                  have r1 : IntKind.u64.wrap ((M : Int) * 2) = ((M * 2 : Nat) : Int) := by rw [IntWalk.u64_in _ (by omega)]; omega
                  go_wp2
                  go_roundw
                  case rel => exact ⟨M * 2, E - 1, by go_num, by go_num, by have := HM0.out; omega, by omega, by omega, by omega, by have := nearest_scale false M 1 E HM0.out; rw [Nat.pow_one] at this; rw [← HN.out]; exact this, HW.out⟩
                  case measure => simp [intOf]; omega
                · have b2 : decide (-1074 < E) = false := by simpa using c2
                  go_wp2
                  go_meet
                  exact ⟨M, E, rfl, rfl, HM0.out, hM, hE1, hE2, .inr (by omega), HN.out, HW.out⟩
              · have b1 : decide ((M : Int) < 4503599627370496) = false := by simpa using c1
                go_wp2
                go_meet
                exact ⟨M, E, rfl, rfl, HM0.out, hM, hE1, hE2, .inl (by omega), HN.out, HW.out⟩
          case rest =>
            obtain ⟨M, E, rfl, rfl, hM0, hM, hE1, hE2, hME, hN, rfl⟩ := hcut
            have HN := hid hN
            have HM0 := hid hM0
            have HME := hid hME
            clear hN hM0 hME
            go_wp2_with fail
            go_loopw [1, 2, 8, 9] (fun c d l h wr => ∃ t : Nat, c = .int .u64 ((hvM M t : Nat) : Int) ∧ d = .int .i64 (E + t) ∧ l = .bool (hvL M t) ∧ h = .bool (hvH M t) ∧ (t ≠ 0 → E + t ≤ -1074) ∧ wr = wc) (fun _ d _ _ _ => (-1074 - intOf d).toNat)
            case atStart => exact ⟨0, by rw [(hv_zero M).1], by simp, by rw [(hv_zero M).2.2], by rw [(hv_zero M).2.1], fun h => absurd rfl h, rfl⟩
            case round =>
              obtain ⟨t, rfl, rfl, rfl, rfl, ht, hwr⟩ := hrel
              have HW := hid hwr
              have HT := hid ht
              have hle := hvM_le M t
              have b0 : decide ((9007199254740992 : Int) ≤ ((hvM M t : Nat) : Int)) = false := by simp; omega
              clear hwr ht
              by_cases c3 : E + t < -1074
              · have b1 : decide (E + t < -1074) = true := by simpa using c3
                have HS := hid (hv_succ M t)
                cases hl : hvL M t
                · have HL := hid hl
                  clear hl
                  go_wp2
                  go_roundw
                  case rel => exact ⟨t + 1, by rw [HS.out.1]; go_num, by go_num, by rw [HS.out.2.2, HL.out]; rfl, by rw [HS.out.2.1, half_eq], fun _ => by omega, HW.out⟩
                  case measure => simp [intOf]; omega
                · have HL := hid hl
                  clear hl
                  go_wp2
                  go_roundw
                  case rel => exact ⟨t + 1, by rw [HS.out.1]; go_num, by go_num, by rw [HS.out.2.2, HL.out]; rfl, by rw [HS.out.2.1, half_eq], fun _ => by omega, HW.out⟩
                  case measure => simp [intOf]; omega
              · have b1 : decide (E + t < -1074) = false := by simpa using c3
                obtain ⟨H, hH⟩ : ∃ H, H = hvM M t := ⟨_, rfl⟩
                have hw := nearest_hv false M E t HM0.out hM (by have := HME.out; omega) (by omega) (fun h => by have := HT.out h; omega)
                have hlow : ∀ K : Nat, H ≤ K → K < 4503599627370496 → E + t = -1074 := fun K h1 h2 => by
                  rcases HME.out with h | h
                  · by_cases h0 : t = 0
                    · subst h0; rw [(hv_zero M).1] at hH; omega
                    · have := HT.out h0; omega
                  · by_cases h0 : t = 0
                    · subst h0; omega
                    · have := HT.out h0; omega
                rw [← hH] at hle hw
                have hFE : E + t ≤ 2000 := by
                  by_cases h0 : t = 0
                  · subst h0; omega
                  · have := HT.out h0; omega
                have Hlow := hid hlow
                simp only [← hH]
                obtain ⟨F, hF⟩ : ∃ F, E + (t : Int) = F := ⟨_, rfl⟩
                have Hlow2 := hid (fun K h1 h2 => hF.symm.trans (Hlow.out K h1 h2))
                rw [hF] at hw b1 c3 hFE
                simp only [hF]
                rw [HN.out] at hw
                clear hlow Hlow hH hF b0
                have hH53 : H < 9007199254740992 := by omega
                cases hh : hvH M t
                · rw [hh] at hw
                  simp only [Bool.false_and, Bool.toNat_false, Nat.add_zero] at hw
                  obtain ⟨K, hK⟩ : ∃ K, K = H := ⟨_, rfl⟩
                  have hK1 : H ≤ K ∧ K ≤ 9007199254740992 := by omega
                  rw [← hK] at hw
                  simp only [← hK]
                  have b0 : decide ((9007199254740992 : Int) ≤ (K : Int)) = false := by simp; omega
                  have b1' : ((K : Int) == 9007199254740992) = false := by rw [beq_eq_false_iff_ne]; omega
                  have hwF := hid hw
                  have t1 : ¬ K = 9007199254740992 := by omega
                  clear hK hh
                  by_cases t2 : 2047 ≤ F + 1075
                  · have b2 : decide (2047 ≤ F + 1075) = true := by simpa using t2
                    have q : ∀ r, r = 0 + 9218868437227405312 → IsF r (D64.nearest false m e) := fun r hr => by
                      have hK52 : 4503599627370496 ≤ K := by
                        rcases Nat.lt_or_ge K 4503599627370496 with h | h
                        · have := Hlow2.out K hK1.1 h; omega
                        · exact h
                      rw [hr, hwF.out, makeW_inf false K F hK52 (by omega)]
                      have := isF_word false IR (Nat.le_refl _); rw [word_false, HI.out] at this; exact this
                    have Q := hid q
                    clear hw q
                    go_wp2
                    go_ret
                    exact ⟨_, rfl, Q.out _ (by first | omega | rfl), HW.out.symm⟩
                  · have b2 : decide (2047 ≤ F + 1075) = false := by simpa using t2
                    by_cases t3 : (K : Int) < 4503599627370496
                    · have b3 : decide ((K : Int) < 4503599627370496) = true := by simpa using t3
                      have q : ∀ r, r = 0 + K → IsF r (D64.nearest false m e) := fun r hr => by
                        rw [hr, hwF.out, Hlow2.out K hK1.1 (by omega), makeW_low false K (by omega)]
                        have := isF_word false K (by have := HI.out; omega); rw [word_false] at this ⊢; try rw [Nat.zero_add]
                        exact this
                      have Q := hid q
                      clear hw q
                      go_wp2
                      go_ret
                      skip
                      exact ⟨_, rfl, Q.out _ (by first | omega | rfl), HW.out.symm⟩
                    · have b3 : decide ((K : Int) < 4503599627370496) = false := by simpa using t3
                      have q : ∀ r, r = 0 + ((F + 1075).toNat * 4503599627370496 + K - 4503599627370496) → IsF r (D64.nearest false m e) := fun r hr => by
                        rw [hr, hwF.out, makeW_mid false K F (by omega) (by omega) (by omega) (by omega)]
                        have := isF_word false ((F + 1075).toNat * BN + K - BN) (by have := HI.out; unfold BN; omega)
                        have e0 : (F + 1075).toNat * BN + K - BN = (F + 1075).toNat * 4503599627370496 + K - 4503599627370496 := by unfold BN; rfl
                        rw [e0] at this ⊢
                        rw [word_false] at this ⊢
                        try rw [Nat.zero_add]
                        exact this
                      have Q := hid q
                      clear hw q
                      go_wp2
                      go_ret
                      skip
                      exact ⟨_, rfl, Q.out _ (by first | omega | rfl), HW.out.symm⟩
                · rw [hh] at hw
                  simp only [Bool.true_and] at hw
                  have b0 : decide ((9007199254740992 : Int) ≤ (H : Int)) = false := by simp; omega
                  cases hl : hvL M t
                  · rw [hl] at hw
                    simp only [Bool.false_or] at hw
                    have hodd := half_eq H
                    cases ho : decide (H % 2 = 1)
                    · rw [ho] at hw hodd
                      simp only [Bool.toNat_false, Nat.add_zero] at hw
                      obtain ⟨K, hK⟩ : ∃ K, K = H := ⟨_, rfl⟩
                      have hK1 : H ≤ K ∧ K ≤ 9007199254740992 := by omega
                      rw [← hK] at hw hodd
                      simp only [← hK]
                      have b0' : decide ((9007199254740992 : Int) ≤ (K : Int)) = false := by simp; omega
                      have b1' : ((K : Int) == 9007199254740992) = false := by rw [beq_eq_false_iff_ne]; omega
                      have hwF := hid hw
                      have t1 : ¬ K = 9007199254740992 := by omega
                      clear hK hh hl ho b0
                      by_cases t2 : 2047 ≤ F + 1075
                      · have b2 : decide (2047 ≤ F + 1075) = true := by simpa using t2
                        have q : ∀ r, r = 0 + 9218868437227405312 → IsF r (D64.nearest false m e) := fun r hr => by
                          have hK52 : 4503599627370496 ≤ K := by
                            rcases Nat.lt_or_ge K 4503599627370496 with h | h
                            · have := Hlow2.out K hK1.1 h; omega
                            · exact h
                          rw [hr, hwF.out, makeW_inf false K F hK52 (by omega)]
                          have := isF_word false IR (Nat.le_refl _); rw [word_false, HI.out] at this; exact this
                        have Q := hid q
                        clear hw q
                        go_wp2
                        go_ret
                        exact ⟨_, rfl, Q.out _ (by first | omega | rfl), HW.out.symm⟩
                      · have b2 : decide (2047 ≤ F + 1075) = false := by simpa using t2
                        by_cases t3 : (K : Int) < 4503599627370496
                        · have b3 : decide ((K : Int) < 4503599627370496) = true := by simpa using t3
                          have q : ∀ r, r = 0 + K → IsF r (D64.nearest false m e) := fun r hr => by
                            rw [hr, hwF.out, Hlow2.out K hK1.1 (by omega), makeW_low false K (by omega)]
                            have := isF_word false K (by have := HI.out; omega); rw [word_false] at this ⊢; try rw [Nat.zero_add]
                            exact this
                          have Q := hid q
                          clear hw q
                          go_wp2
                          go_ret
                          skip
                          exact ⟨_, rfl, Q.out _ (by first | omega | rfl), HW.out.symm⟩
                        · have b3 : decide ((K : Int) < 4503599627370496) = false := by simpa using t3
                          have q : ∀ r, r = 0 + ((F + 1075).toNat * 4503599627370496 + K - 4503599627370496) → IsF r (D64.nearest false m e) := fun r hr => by
                            rw [hr, hwF.out, makeW_mid false K F (by omega) (by omega) (by omega) (by omega)]
                            have := isF_word false ((F + 1075).toNat * BN + K - BN) (by have := HI.out; unfold BN; omega)
                            have e0 : (F + 1075).toNat * BN + K - BN = (F + 1075).toNat * 4503599627370496 + K - 4503599627370496 := by unfold BN; rfl
                            rw [e0] at this ⊢
                            rw [word_false] at this ⊢
                            try rw [Nat.zero_add]
                            exact this
                          have Q := hid q
                          clear hw q
                          go_wp2
                          go_ret
                          skip
                          exact ⟨_, rfl, Q.out _ (by first | omega | rfl), HW.out.symm⟩
                    · rw [ho] at hw hodd
                      simp only [Bool.toNat_true] at hw
                      obtain ⟨K, hK⟩ : ∃ K, K = H + 1 := ⟨_, rfl⟩
                      have hK1 : H ≤ K ∧ K ≤ 9007199254740992 := by omega
                      rw [← hK] at hw
                      have rK : IntKind.u64.wrap ((H : Int) + 1) = (K : Int) := by rw [IntWalk.u64_in _ (by omega)]; omega
                      clear hK hh hl ho
                      have hwF := hid hw
                      by_cases t1 : K = 9007199254740992
                      · subst t1
                        by_cases t2 : 2047 ≤ F + 1 + 1075
                        · have b2 : decide (2047 ≤ F + 1 + 1075) = true := by simpa using t2
                          have q : ∀ r, r = 0 + 9218868437227405312 → IsF r (D64.nearest false m e) := fun r hr => by
                            rw [hr, hwF.out, show (9007199254740992 : Nat) = 2 ^ 53 from by decide, makeW_top false F (by omega), makeW_inf false _ _ (Nat.le_refl _) (by omega)]
                            have := isF_word false IR (Nat.le_refl _); rw [word_false, HI.out] at this; exact this
                          have Q := hid q
                          clear hw q
                          go_wp2
                          go_ret
                          exact ⟨_, rfl, Q.out _ (by first | omega | rfl), HW.out.symm⟩
                        · have b2 : decide (2047 ≤ F + 1 + 1075) = false := by simpa using t2
                          have q : ∀ r, r = 0 + (F + 1 + 1075).toNat * 4503599627370496 → IsF r (D64.nearest false m e) := fun r hr => by
                            rw [hr, hwF.out, show (9007199254740992 : Nat) = 2 ^ 53 from by decide, makeW_top false F (by omega), makeW_mid false (2 ^ 52) (F + 1) (Nat.le_refl _) (by decide) (by omega) (by omega)]
                            have := isF_word false ((F + 1 + 1075).toNat * BN + 2 ^ 52 - BN) (by have := HI.out; unfold BN; omega)
                            rw [word_false] at this
                            have e0 : (F + 1 + 1075).toNat * BN + 2 ^ 52 - BN = (F + 1 + 1075).toNat * 4503599627370496 := by unfold BN; omega
                            rw [e0] at this ⊢; try rw [Nat.zero_add]
                            rw [word_false]; exact this
                          have Q := hid q
                          clear hw q
                          go_wp2
                          go_ret
                          skip
                          exact ⟨_, rfl, Q.out _ (by first | omega | rfl), HW.out.symm⟩
                      · have b1' : ((K : Int) == 9007199254740992) = false := by rw [beq_eq_false_iff_ne]; omega
                        by_cases t2 : 2047 ≤ F + 1075
                        · have b2 : decide (2047 ≤ F + 1075) = true := by simpa using t2
                          have q : ∀ r, r = 0 + 9218868437227405312 → IsF r (D64.nearest false m e) := fun r hr => by
                            have hK52 : 4503599627370496 ≤ K := by
                              rcases Nat.lt_or_ge K 4503599627370496 with h | h
                              · have := Hlow2.out K hK1.1 h; omega
                              · exact h
                            rw [hr, hwF.out, makeW_inf false K F hK52 (by omega)]
                            have := isF_word false IR (Nat.le_refl _); rw [word_false, HI.out] at this; exact this
                          have Q := hid q
                          clear hw q
                          go_wp2
                          go_ret
                          exact ⟨_, rfl, Q.out _ (by first | omega | rfl), HW.out.symm⟩
                        · have b2 : decide (2047 ≤ F + 1075) = false := by simpa using t2
                          by_cases t3 : (K : Int) < 4503599627370496
                          · have b3 : decide ((K : Int) < 4503599627370496) = true := by simpa using t3
                            have q : ∀ r, r = 0 + K → IsF r (D64.nearest false m e) := fun r hr => by
                              rw [hr, hwF.out, Hlow2.out K hK1.1 (by omega), makeW_low false K (by omega)]
                              have := isF_word false K (by have := HI.out; omega); rw [word_false] at this ⊢; try rw [Nat.zero_add]
                              exact this
                            have Q := hid q
                            clear hw q
                            go_wp2
                            go_ret
                            skip
                            exact ⟨_, rfl, Q.out _ (by first | omega | rfl), HW.out.symm⟩
                          · have b3 : decide ((K : Int) < 4503599627370496) = false := by simpa using t3
                            have q : ∀ r, r = 0 + ((F + 1075).toNat * 4503599627370496 + K - 4503599627370496) → IsF r (D64.nearest false m e) := fun r hr => by
                              rw [hr, hwF.out, makeW_mid false K F (by omega) (by omega) (by omega) (by omega)]
                              have := isF_word false ((F + 1075).toNat * BN + K - BN) (by have := HI.out; unfold BN; omega)
                              have e0 : (F + 1075).toNat * BN + K - BN = (F + 1075).toNat * 4503599627370496 + K - 4503599627370496 := by unfold BN; rfl
                              rw [e0] at this ⊢
                              rw [word_false] at this ⊢
                              try rw [Nat.zero_add]
                              exact this
                            have Q := hid q
                            clear hw q
                            go_wp2
                            go_ret
                            skip
                            exact ⟨_, rfl, Q.out _ (by first | omega | rfl), HW.out.symm⟩
                  · rw [hl] at hw
                    simp only [Bool.true_or, Bool.toNat_true] at hw
                    obtain ⟨K, hK⟩ : ∃ K, K = H + 1 := ⟨_, rfl⟩
                    have hK1 : H ≤ K ∧ K ≤ 9007199254740992 := by omega
                    rw [← hK] at hw
                    have rK : IntKind.u64.wrap ((H : Int) + 1) = (K : Int) := by rw [IntWalk.u64_in _ (by omega)]; omega
                    clear hK hh hl
                    have hwF := hid hw
                    by_cases t1 : K = 9007199254740992
                    · subst t1
                      by_cases t2 : 2047 ≤ F + 1 + 1075
                      · have b2 : decide (2047 ≤ F + 1 + 1075) = true := by simpa using t2
                        have q : ∀ r, r = 0 + 9218868437227405312 → IsF r (D64.nearest false m e) := fun r hr => by
                          rw [hr, hwF.out, show (9007199254740992 : Nat) = 2 ^ 53 from by decide, makeW_top false F (by omega), makeW_inf false _ _ (Nat.le_refl _) (by omega)]
                          have := isF_word false IR (Nat.le_refl _); rw [word_false, HI.out] at this; exact this
                        have Q := hid q
                        clear hw q
                        go_wp2
                        go_ret
                        exact ⟨_, rfl, Q.out _ (by first | omega | rfl), HW.out.symm⟩
                      · have b2 : decide (2047 ≤ F + 1 + 1075) = false := by simpa using t2
                        have q : ∀ r, r = 0 + (F + 1 + 1075).toNat * 4503599627370496 → IsF r (D64.nearest false m e) := fun r hr => by
                          rw [hr, hwF.out, show (9007199254740992 : Nat) = 2 ^ 53 from by decide, makeW_top false F (by omega), makeW_mid false (2 ^ 52) (F + 1) (Nat.le_refl _) (by decide) (by omega) (by omega)]
                          have := isF_word false ((F + 1 + 1075).toNat * BN + 2 ^ 52 - BN) (by have := HI.out; unfold BN; omega)
                          rw [word_false] at this
                          have e0 : (F + 1 + 1075).toNat * BN + 2 ^ 52 - BN = (F + 1 + 1075).toNat * 4503599627370496 := by unfold BN; omega
                          rw [e0] at this ⊢; try rw [Nat.zero_add]
                          rw [word_false]; exact this
                        have Q := hid q
                        clear hw q
                        go_wp2
                        go_ret
                        skip
                        exact ⟨_, rfl, Q.out _ (by first | omega | rfl), HW.out.symm⟩
                    · have b1' : ((K : Int) == 9007199254740992) = false := by rw [beq_eq_false_iff_ne]; omega
                      by_cases t2 : 2047 ≤ F + 1075
                      · have b2 : decide (2047 ≤ F + 1075) = true := by simpa using t2
                        have q : ∀ r, r = 0 + 9218868437227405312 → IsF r (D64.nearest false m e) := fun r hr => by
                          have hK52 : 4503599627370496 ≤ K := by
                            rcases Nat.lt_or_ge K 4503599627370496 with h | h
                            · have := Hlow2.out K hK1.1 h; omega
                            · exact h
                          rw [hr, hwF.out, makeW_inf false K F hK52 (by omega)]
                          have := isF_word false IR (Nat.le_refl _); rw [word_false, HI.out] at this; exact this
                        have Q := hid q
                        clear hw q
                        go_wp2
                        go_ret
                        exact ⟨_, rfl, Q.out _ (by first | omega | rfl), HW.out.symm⟩
                      · have b2 : decide (2047 ≤ F + 1075) = false := by simpa using t2
                        by_cases t3 : (K : Int) < 4503599627370496
                        · have b3 : decide ((K : Int) < 4503599627370496) = true := by simpa using t3
                          have q : ∀ r, r = 0 + K → IsF r (D64.nearest false m e) := fun r hr => by
                            rw [hr, hwF.out, Hlow2.out K hK1.1 (by omega), makeW_low false K (by omega)]
                            have := isF_word false K (by have := HI.out; omega); rw [word_false] at this ⊢; try rw [Nat.zero_add]
                            exact this
                          have Q := hid q
                          clear hw q
                          go_wp2
                          go_ret
                          skip
                          exact ⟨_, rfl, Q.out _ (by first | omega | rfl), HW.out.symm⟩
                        · have b3 : decide ((K : Int) < 4503599627370496) = false := by simpa using t3
                          have q : ∀ r, r = 0 + ((F + 1075).toNat * 4503599627370496 + K - 4503599627370496) → IsF r (D64.nearest false m e) := fun r hr => by
                            rw [hr, hwF.out, makeW_mid false K F (by omega) (by omega) (by omega) (by omega)]
                            have := isF_word false ((F + 1075).toNat * BN + K - BN) (by have := HI.out; unfold BN; omega)
                            have e0 : (F + 1075).toNat * BN + K - BN = (F + 1075).toNat * 4503599627370496 + K - 4503599627370496 := by unfold BN; rfl
                            rw [e0] at this ⊢
                            rw [word_false] at this ⊢
                            try rw [Nat.zero_add]
                            exact this
                          have Q := hid q
                          clear hw q
                          go_wp2
                          go_ret
                          skip
                          exact ⟨_, rfl, Q.out _ (by first | omega | rfl), HW.out.symm⟩
  · by_cases m0 : m = 0
    · subst m0
      have q : IsF 9223372036854775808 (mkF true 0 e) := by unfold mkF; rw [if_pos rfl]; have := isF_word true 0 (Nat.zero_le _); rwa [word_true] at this
      go_enter Try.func199, Try.ntmps199
      go_wp2
      go_ret
      exact ⟨_, rfl, q, rfl⟩
    · have d1 : ((m : Int) == 0) = false := by rw [beq_eq_false_iff_ne]; omega
      have hmk : mkF true m e = D64.nearest true m e := by unfold mkF; rw [if_neg m0]
      by_cases e1 : e < -1200
      · have d2 : decide (e < -1200) = true := by simpa using e1
        have q : IsF 9223372036854775808 (mkF true m e) := by rw [hmk, nearest_low true m e m0 hm' (by omega)]; have := isF_word true 0 (Nat.zero_le _); rwa [word_true] at this
        clear hmk
        go_enter Try.func199, Try.ntmps199
        go_wp2
        go_ret
        exact ⟨_, rfl, q, rfl⟩
      · have d2 : decide (e < -1200) = false := by simpa using e1
        by_cases e2 : 2000 < e
        · have d3 : decide (2000 < e) = true := by simpa using e2
          have q : IsF (9223372036854775808 + 9218868437227405312) (mkF true m e) := by rw [hmk, nearest_high true m e m0 hm' (by omega)]; have := isF_word true IR (Nat.le_refl _); rw [word_true, HI.out] at this; exact this
          clear hmk
          go_enter Try.func199, Try.ntmps199
          go_wp2
          go_ret
          exact ⟨_, rfl, q, rfl⟩
        · have d3 : decide (2000 < e) = false := by simpa using e2
          rw [hmk]
          have M0 := hid m0
          clear hmk m0
          go_enter Try.func199, Try.ntmps199
          go_upto_block 0 with fail
          go_cut [1, 2] (fun c d wx => ∃ (M : Nat) (E : Int), c = .int .u64 M ∧ d = .int .i64 E ∧ M ≠ 0 ∧ M < 9007199254740992 ∧ -1200 ≤ E ∧ E ≤ 2000 ∧ (4503599627370496 ≤ M ∨ E ≤ -1074) ∧ D64.nearest true M E = D64.nearest true m e ∧ wx = w)
          case first =>
            go_wp2_with fail
            go_loopw [1, 2] (fun c d wr => ∃ (M : Nat) (E : Int), c = .int .u64 M ∧ d = .int .i64 E ∧ M ≠ 0 ∧ M < 9007199254740992 ∧ -1200 ≤ E ∧ E ≤ 2000 ∧ D64.nearest true M E = D64.nearest true m e ∧ wr = w) (fun _ d _ => (intOf d + 2000).toNat)
            case atStart => exact ⟨m, e, rfl, rfl, M0.out, hm', by omega, by omega, rfl, rfl⟩
            case round =>
              obtain ⟨M, E, rfl, rfl, hM0, hM, hE1, hE2, hN, hwr⟩ := hrel
              have HN := hid hN
              have HM0 := hid hM0
              have HW := hid hwr
              clear hN hM0 hwr
              by_cases c1 : (M : Int) < 4503599627370496
              · have b1 : decide ((M : Int) < 4503599627370496) = true := by simpa using c1
                by_cases c2 : -1074 < E
                · have b2 : decide (-1074 < E) = true := by simpa using c2
                  have r1 : IntKind.u64.wrap ((M : Int) * 2) = ((M * 2 : Nat) : Int) := by rw [IntWalk.u64_in _ (by omega)]; omega
                  go_wp2
                  go_roundw
                  case rel => exact ⟨M * 2, E - 1, by go_num, by go_num, by have := HM0.out; omega, by omega, by omega, by omega, by have := nearest_scale true M 1 E HM0.out; rw [Nat.pow_one] at this; rw [← HN.out]; exact this, HW.out⟩
                  case measure => simp [intOf]; omega
                · have b2 : decide (-1074 < E) = false := by simpa using c2
                  go_wp2
                  go_meet
                  exact ⟨M, E, rfl, rfl, HM0.out, hM, hE1, hE2, .inr (by omega), HN.out, HW.out⟩
              · have b1 : decide ((M : Int) < 4503599627370496) = false := by simpa using c1
                go_wp2
                go_meet
                exact ⟨M, E, rfl, rfl, HM0.out, hM, hE1, hE2, .inl (by omega), HN.out, HW.out⟩
          case rest =>
            obtain ⟨M, E, rfl, rfl, hM0, hM, hE1, hE2, hME, hN, rfl⟩ := hcut
            have HN := hid hN
            have HM0 := hid hM0
            have HME := hid hME
            clear hN hM0 hME
            go_wp2_with fail
            go_loopw [1, 2, 8, 9] (fun c d l h wr => ∃ t : Nat, c = .int .u64 ((hvM M t : Nat) : Int) ∧ d = .int .i64 (E + t) ∧ l = .bool (hvL M t) ∧ h = .bool (hvH M t) ∧ (t ≠ 0 → E + t ≤ -1074) ∧ wr = wc) (fun _ d _ _ _ => (-1074 - intOf d).toNat)
            case atStart => exact ⟨0, by rw [(hv_zero M).1], by simp, by rw [(hv_zero M).2.2], by rw [(hv_zero M).2.1], fun h => absurd rfl h, rfl⟩
            case round =>
              obtain ⟨t, rfl, rfl, rfl, rfl, ht, hwr⟩ := hrel
              have HW := hid hwr
              have HT := hid ht
              have hle := hvM_le M t
              have b0 : decide ((9007199254740992 : Int) ≤ ((hvM M t : Nat) : Int)) = false := by simp; omega
              clear hwr ht
              by_cases c3 : E + t < -1074
              · have b1 : decide (E + t < -1074) = true := by simpa using c3
                have HS := hid (hv_succ M t)
                cases hl : hvL M t
                · have HL := hid hl
                  clear hl
                  go_wp2
                  go_roundw
                  case rel => exact ⟨t + 1, by rw [HS.out.1]; go_num, by go_num, by rw [HS.out.2.2, HL.out]; rfl, by rw [HS.out.2.1, half_eq], fun _ => by omega, HW.out⟩
                  case measure => simp [intOf]; omega
                · have HL := hid hl
                  clear hl
                  go_wp2
                  go_roundw
                  case rel => exact ⟨t + 1, by rw [HS.out.1]; go_num, by go_num, by rw [HS.out.2.2, HL.out]; rfl, by rw [HS.out.2.1, half_eq], fun _ => by omega, HW.out⟩
                  case measure => simp [intOf]; omega
              · have b1 : decide (E + t < -1074) = false := by simpa using c3
                obtain ⟨H, hH⟩ : ∃ H, H = hvM M t := ⟨_, rfl⟩
                have hw := nearest_hv true M E t HM0.out hM (by have := HME.out; omega) (by omega) (fun h => by have := HT.out h; omega)
                have hlow : ∀ K : Nat, H ≤ K → K < 4503599627370496 → E + t = -1074 := fun K h1 h2 => by
                  rcases HME.out with h | h
                  · by_cases h0 : t = 0
                    · subst h0; rw [(hv_zero M).1] at hH; omega
                    · have := HT.out h0; omega
                  · by_cases h0 : t = 0
                    · subst h0; omega
                    · have := HT.out h0; omega
                rw [← hH] at hle hw
                have hFE : E + t ≤ 2000 := by
                  by_cases h0 : t = 0
                  · subst h0; omega
                  · have := HT.out h0; omega
                have Hlow := hid hlow
                simp only [← hH]
                obtain ⟨F, hF⟩ : ∃ F, E + (t : Int) = F := ⟨_, rfl⟩
                have Hlow2 := hid (fun K h1 h2 => hF.symm.trans (Hlow.out K h1 h2))
                rw [hF] at hw b1 c3 hFE
                simp only [hF]
                rw [HN.out] at hw
                clear hlow Hlow hH hF b0
                have hH53 : H < 9007199254740992 := by omega
                cases hh : hvH M t
                · rw [hh] at hw
                  simp only [Bool.false_and, Bool.toNat_false, Nat.add_zero] at hw
                  obtain ⟨K, hK⟩ : ∃ K, K = H := ⟨_, rfl⟩
                  have hK1 : H ≤ K ∧ K ≤ 9007199254740992 := by omega
                  rw [← hK] at hw
                  simp only [← hK]
                  have b0 : decide ((9007199254740992 : Int) ≤ (K : Int)) = false := by simp; omega
                  have b1' : ((K : Int) == 9007199254740992) = false := by rw [beq_eq_false_iff_ne]; omega
                  have hwF := hid hw
                  have t1 : ¬ K = 9007199254740992 := by omega
                  clear hK hh
                  by_cases t2 : 2047 ≤ F + 1075
                  · have b2 : decide (2047 ≤ F + 1075) = true := by simpa using t2
                    have q : ∀ r, r = 9223372036854775808 + 9218868437227405312 → IsF r (D64.nearest true m e) := fun r hr => by
                      have hK52 : 4503599627370496 ≤ K := by
                        rcases Nat.lt_or_ge K 4503599627370496 with h | h
                        · have := Hlow2.out K hK1.1 h; omega
                        · exact h
                      rw [hr, hwF.out, makeW_inf true K F hK52 (by omega)]
                      have := isF_word true IR (Nat.le_refl _); rw [word_true, HI.out] at this; exact this
                    have Q := hid q
                    clear hw q
                    go_wp2
                    go_ret
                    exact ⟨_, rfl, Q.out _ (by first | omega | rfl), HW.out.symm⟩
                  · have b2 : decide (2047 ≤ F + 1075) = false := by simpa using t2
                    by_cases t3 : (K : Int) < 4503599627370496
                    · have b3 : decide ((K : Int) < 4503599627370496) = true := by simpa using t3
                      have q : ∀ r, r = 9223372036854775808 + K → IsF r (D64.nearest true m e) := fun r hr => by
                        rw [hr, hwF.out, Hlow2.out K hK1.1 (by omega), makeW_low true K (by omega)]
                        have := isF_word true K (by have := HI.out; omega); rw [word_true] at this ⊢; try rw [Nat.zero_add]
                        exact this
                      have Q := hid q
                      clear hw q
                      go_wp2
                      go_ret
                      skip
                      exact ⟨_, rfl, Q.out _ (by first | omega | rfl), HW.out.symm⟩
                    · have b3 : decide ((K : Int) < 4503599627370496) = false := by simpa using t3
                      have q : ∀ r, r = 9223372036854775808 + ((F + 1075).toNat * 4503599627370496 + K - 4503599627370496) → IsF r (D64.nearest true m e) := fun r hr => by
                        rw [hr, hwF.out, makeW_mid true K F (by omega) (by omega) (by omega) (by omega)]
                        have := isF_word true ((F + 1075).toNat * BN + K - BN) (by have := HI.out; unfold BN; omega)
                        have e0 : (F + 1075).toNat * BN + K - BN = (F + 1075).toNat * 4503599627370496 + K - 4503599627370496 := by unfold BN; rfl
                        rw [e0] at this ⊢
                        rw [word_true] at this ⊢
                        try rw [Nat.zero_add]
                        exact this
                      have Q := hid q
                      clear hw q
                      go_wp2
                      go_ret
                      skip
                      exact ⟨_, rfl, Q.out _ (by first | omega | rfl), HW.out.symm⟩
                · rw [hh] at hw
                  simp only [Bool.true_and] at hw
                  have b0 : decide ((9007199254740992 : Int) ≤ (H : Int)) = false := by simp; omega
                  cases hl : hvL M t
                  · rw [hl] at hw
                    simp only [Bool.false_or] at hw
                    have hodd := half_eq H
                    cases ho : decide (H % 2 = 1)
                    · rw [ho] at hw hodd
                      simp only [Bool.toNat_false, Nat.add_zero] at hw
                      obtain ⟨K, hK⟩ : ∃ K, K = H := ⟨_, rfl⟩
                      have hK1 : H ≤ K ∧ K ≤ 9007199254740992 := by omega
                      rw [← hK] at hw hodd
                      simp only [← hK]
                      have b0' : decide ((9007199254740992 : Int) ≤ (K : Int)) = false := by simp; omega
                      have b1' : ((K : Int) == 9007199254740992) = false := by rw [beq_eq_false_iff_ne]; omega
                      have hwF := hid hw
                      have t1 : ¬ K = 9007199254740992 := by omega
                      clear hK hh hl ho b0
                      by_cases t2 : 2047 ≤ F + 1075
                      · have b2 : decide (2047 ≤ F + 1075) = true := by simpa using t2
                        have q : ∀ r, r = 9223372036854775808 + 9218868437227405312 → IsF r (D64.nearest true m e) := fun r hr => by
                          have hK52 : 4503599627370496 ≤ K := by
                            rcases Nat.lt_or_ge K 4503599627370496 with h | h
                            · have := Hlow2.out K hK1.1 h; omega
                            · exact h
                          rw [hr, hwF.out, makeW_inf true K F hK52 (by omega)]
                          have := isF_word true IR (Nat.le_refl _); rw [word_true, HI.out] at this; exact this
                        have Q := hid q
                        clear hw q
                        go_wp2
                        go_ret
                        exact ⟨_, rfl, Q.out _ (by first | omega | rfl), HW.out.symm⟩
                      · have b2 : decide (2047 ≤ F + 1075) = false := by simpa using t2
                        by_cases t3 : (K : Int) < 4503599627370496
                        · have b3 : decide ((K : Int) < 4503599627370496) = true := by simpa using t3
                          have q : ∀ r, r = 9223372036854775808 + K → IsF r (D64.nearest true m e) := fun r hr => by
                            rw [hr, hwF.out, Hlow2.out K hK1.1 (by omega), makeW_low true K (by omega)]
                            have := isF_word true K (by have := HI.out; omega); rw [word_true] at this ⊢; try rw [Nat.zero_add]
                            exact this
                          have Q := hid q
                          clear hw q
                          go_wp2
                          go_ret
                          skip
                          exact ⟨_, rfl, Q.out _ (by first | omega | rfl), HW.out.symm⟩
                        · have b3 : decide ((K : Int) < 4503599627370496) = false := by simpa using t3
                          have q : ∀ r, r = 9223372036854775808 + ((F + 1075).toNat * 4503599627370496 + K - 4503599627370496) → IsF r (D64.nearest true m e) := fun r hr => by
                            rw [hr, hwF.out, makeW_mid true K F (by omega) (by omega) (by omega) (by omega)]
                            have := isF_word true ((F + 1075).toNat * BN + K - BN) (by have := HI.out; unfold BN; omega)
                            have e0 : (F + 1075).toNat * BN + K - BN = (F + 1075).toNat * 4503599627370496 + K - 4503599627370496 := by unfold BN; rfl
                            rw [e0] at this ⊢
                            rw [word_true] at this ⊢
                            try rw [Nat.zero_add]
                            exact this
                          have Q := hid q
                          clear hw q
                          go_wp2
                          go_ret
                          skip
                          exact ⟨_, rfl, Q.out _ (by first | omega | rfl), HW.out.symm⟩
                    · rw [ho] at hw hodd
                      simp only [Bool.toNat_true] at hw
                      obtain ⟨K, hK⟩ : ∃ K, K = H + 1 := ⟨_, rfl⟩
                      have hK1 : H ≤ K ∧ K ≤ 9007199254740992 := by omega
                      rw [← hK] at hw
                      have rK : IntKind.u64.wrap ((H : Int) + 1) = (K : Int) := by rw [IntWalk.u64_in _ (by omega)]; omega
                      clear hK hh hl ho
                      have hwF := hid hw
                      by_cases t1 : K = 9007199254740992
                      · subst t1
                        by_cases t2 : 2047 ≤ F + 1 + 1075
                        · have b2 : decide (2047 ≤ F + 1 + 1075) = true := by simpa using t2
                          have q : ∀ r, r = 9223372036854775808 + 9218868437227405312 → IsF r (D64.nearest true m e) := fun r hr => by
                            rw [hr, hwF.out, show (9007199254740992 : Nat) = 2 ^ 53 from by decide, makeW_top true F (by omega), makeW_inf true _ _ (Nat.le_refl _) (by omega)]
                            have := isF_word true IR (Nat.le_refl _); rw [word_true, HI.out] at this; exact this
                          have Q := hid q
                          clear hw q
                          go_wp2
                          go_ret
                          exact ⟨_, rfl, Q.out _ (by first | omega | rfl), HW.out.symm⟩
                        · have b2 : decide (2047 ≤ F + 1 + 1075) = false := by simpa using t2
                          have q : ∀ r, r = 9223372036854775808 + (F + 1 + 1075).toNat * 4503599627370496 → IsF r (D64.nearest true m e) := fun r hr => by
                            rw [hr, hwF.out, show (9007199254740992 : Nat) = 2 ^ 53 from by decide, makeW_top true F (by omega), makeW_mid true (2 ^ 52) (F + 1) (Nat.le_refl _) (by decide) (by omega) (by omega)]
                            have := isF_word true ((F + 1 + 1075).toNat * BN + 2 ^ 52 - BN) (by have := HI.out; unfold BN; omega)
                            rw [word_true] at this
                            have e0 : (F + 1 + 1075).toNat * BN + 2 ^ 52 - BN = (F + 1 + 1075).toNat * 4503599627370496 := by unfold BN; omega
                            rw [e0] at this ⊢; try rw [Nat.zero_add]
                            rw [word_true]; exact this
                          have Q := hid q
                          clear hw q
                          go_wp2
                          go_ret
                          skip
                          exact ⟨_, rfl, Q.out _ (by first | omega | rfl), HW.out.symm⟩
                      · have b1' : ((K : Int) == 9007199254740992) = false := by rw [beq_eq_false_iff_ne]; omega
                        by_cases t2 : 2047 ≤ F + 1075
                        · have b2 : decide (2047 ≤ F + 1075) = true := by simpa using t2
                          have q : ∀ r, r = 9223372036854775808 + 9218868437227405312 → IsF r (D64.nearest true m e) := fun r hr => by
                            have hK52 : 4503599627370496 ≤ K := by
                              rcases Nat.lt_or_ge K 4503599627370496 with h | h
                              · have := Hlow2.out K hK1.1 h; omega
                              · exact h
                            rw [hr, hwF.out, makeW_inf true K F hK52 (by omega)]
                            have := isF_word true IR (Nat.le_refl _); rw [word_true, HI.out] at this; exact this
                          have Q := hid q
                          clear hw q
                          go_wp2
                          go_ret
                          exact ⟨_, rfl, Q.out _ (by first | omega | rfl), HW.out.symm⟩
                        · have b2 : decide (2047 ≤ F + 1075) = false := by simpa using t2
                          by_cases t3 : (K : Int) < 4503599627370496
                          · have b3 : decide ((K : Int) < 4503599627370496) = true := by simpa using t3
                            have q : ∀ r, r = 9223372036854775808 + K → IsF r (D64.nearest true m e) := fun r hr => by
                              rw [hr, hwF.out, Hlow2.out K hK1.1 (by omega), makeW_low true K (by omega)]
                              have := isF_word true K (by have := HI.out; omega); rw [word_true] at this ⊢; try rw [Nat.zero_add]
                              exact this
                            have Q := hid q
                            clear hw q
                            go_wp2
                            go_ret
                            skip
                            exact ⟨_, rfl, Q.out _ (by first | omega | rfl), HW.out.symm⟩
                          · have b3 : decide ((K : Int) < 4503599627370496) = false := by simpa using t3
                            have q : ∀ r, r = 9223372036854775808 + ((F + 1075).toNat * 4503599627370496 + K - 4503599627370496) → IsF r (D64.nearest true m e) := fun r hr => by
                              rw [hr, hwF.out, makeW_mid true K F (by omega) (by omega) (by omega) (by omega)]
                              have := isF_word true ((F + 1075).toNat * BN + K - BN) (by have := HI.out; unfold BN; omega)
                              have e0 : (F + 1075).toNat * BN + K - BN = (F + 1075).toNat * 4503599627370496 + K - 4503599627370496 := by unfold BN; rfl
                              rw [e0] at this ⊢
                              rw [word_true] at this ⊢
                              try rw [Nat.zero_add]
                              exact this
                            have Q := hid q
                            clear hw q
                            go_wp2
                            go_ret
                            skip
                            exact ⟨_, rfl, Q.out _ (by first | omega | rfl), HW.out.symm⟩
                  · rw [hl] at hw
                    simp only [Bool.true_or, Bool.toNat_true] at hw
                    obtain ⟨K, hK⟩ : ∃ K, K = H + 1 := ⟨_, rfl⟩
                    have hK1 : H ≤ K ∧ K ≤ 9007199254740992 := by omega
                    rw [← hK] at hw
                    have rK : IntKind.u64.wrap ((H : Int) + 1) = (K : Int) := by rw [IntWalk.u64_in _ (by omega)]; omega
                    clear hK hh hl
                    have hwF := hid hw
                    by_cases t1 : K = 9007199254740992
                    · subst t1
                      by_cases t2 : 2047 ≤ F + 1 + 1075
                      · have b2 : decide (2047 ≤ F + 1 + 1075) = true := by simpa using t2
                        have q : ∀ r, r = 9223372036854775808 + 9218868437227405312 → IsF r (D64.nearest true m e) := fun r hr => by
                          rw [hr, hwF.out, show (9007199254740992 : Nat) = 2 ^ 53 from by decide, makeW_top true F (by omega), makeW_inf true _ _ (Nat.le_refl _) (by omega)]
                          have := isF_word true IR (Nat.le_refl _); rw [word_true, HI.out] at this; exact this
                        have Q := hid q
                        clear hw q
                        go_wp2
                        go_ret
                        exact ⟨_, rfl, Q.out _ (by first | omega | rfl), HW.out.symm⟩
                      · have b2 : decide (2047 ≤ F + 1 + 1075) = false := by simpa using t2
                        have q : ∀ r, r = 9223372036854775808 + (F + 1 + 1075).toNat * 4503599627370496 → IsF r (D64.nearest true m e) := fun r hr => by
                          rw [hr, hwF.out, show (9007199254740992 : Nat) = 2 ^ 53 from by decide, makeW_top true F (by omega), makeW_mid true (2 ^ 52) (F + 1) (Nat.le_refl _) (by decide) (by omega) (by omega)]
                          have := isF_word true ((F + 1 + 1075).toNat * BN + 2 ^ 52 - BN) (by have := HI.out; unfold BN; omega)
                          rw [word_true] at this
                          have e0 : (F + 1 + 1075).toNat * BN + 2 ^ 52 - BN = (F + 1 + 1075).toNat * 4503599627370496 := by unfold BN; omega
                          rw [e0] at this ⊢; try rw [Nat.zero_add]
                          rw [word_true]; exact this
                        have Q := hid q
                        clear hw q
                        go_wp2
                        go_ret
                        skip
                        exact ⟨_, rfl, Q.out _ (by first | omega | rfl), HW.out.symm⟩
                    · have b1' : ((K : Int) == 9007199254740992) = false := by rw [beq_eq_false_iff_ne]; omega
                      by_cases t2 : 2047 ≤ F + 1075
                      · have b2 : decide (2047 ≤ F + 1075) = true := by simpa using t2
                        have q : ∀ r, r = 9223372036854775808 + 9218868437227405312 → IsF r (D64.nearest true m e) := fun r hr => by
                          have hK52 : 4503599627370496 ≤ K := by
                            rcases Nat.lt_or_ge K 4503599627370496 with h | h
                            · have := Hlow2.out K hK1.1 h; omega
                            · exact h
                          rw [hr, hwF.out, makeW_inf true K F hK52 (by omega)]
                          have := isF_word true IR (Nat.le_refl _); rw [word_true, HI.out] at this; exact this
                        have Q := hid q
                        clear hw q
                        go_wp2
                        go_ret
                        exact ⟨_, rfl, Q.out _ (by first | omega | rfl), HW.out.symm⟩
                      · have b2 : decide (2047 ≤ F + 1075) = false := by simpa using t2
                        by_cases t3 : (K : Int) < 4503599627370496
                        · have b3 : decide ((K : Int) < 4503599627370496) = true := by simpa using t3
                          have q : ∀ r, r = 9223372036854775808 + K → IsF r (D64.nearest true m e) := fun r hr => by
                            rw [hr, hwF.out, Hlow2.out K hK1.1 (by omega), makeW_low true K (by omega)]
                            have := isF_word true K (by have := HI.out; omega); rw [word_true] at this ⊢; try rw [Nat.zero_add]
                            exact this
                          have Q := hid q
                          clear hw q
                          go_wp2
                          go_ret
                          skip
                          exact ⟨_, rfl, Q.out _ (by first | omega | rfl), HW.out.symm⟩
                        · have b3 : decide ((K : Int) < 4503599627370496) = false := by simpa using t3
                          have q : ∀ r, r = 9223372036854775808 + ((F + 1075).toNat * 4503599627370496 + K - 4503599627370496) → IsF r (D64.nearest true m e) := fun r hr => by
                            rw [hr, hwF.out, makeW_mid true K F (by omega) (by omega) (by omega) (by omega)]
                            have := isF_word true ((F + 1075).toNat * BN + K - BN) (by have := HI.out; unfold BN; omega)
                            have e0 : (F + 1075).toNat * BN + K - BN = (F + 1075).toNat * 4503599627370496 + K - 4503599627370496 := by unfold BN; rfl
                            rw [e0] at this ⊢
                            rw [word_true] at this ⊢
                            try rw [Nat.zero_add]
                            exact this
                          have Q := hid q
                          clear hw q
                          go_wp2
                          go_ret
                          skip
                          exact ⟨_, rfl, Q.out _ (by first | omega | rfl), HW.out.symm⟩
end Go.Proofs.Ytcmggfpcbijcjaa
end
