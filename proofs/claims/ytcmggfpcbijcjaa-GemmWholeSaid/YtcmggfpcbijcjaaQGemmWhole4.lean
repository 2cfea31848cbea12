/-
  Texts laid one behind the other (a claim has at most 60 files): Vec2, Meet, Meet2, Trsv1, Sums.
-/
import Derived.LaidEqlPtr
import Derived.Test.YtcmggfpcbijcjaaQGemmWhole1
import Derived.Test.YtcmggfpcbijcjaaQGemmWhole2
import Derived.Test.YtcmggfpcbijcjaaQGemmWhole3
section
/-
  Contracts: straightedgeref03.List; move.meet, move.Pair, straightedgeref04.Pair.
-/
set_option linter.unusedSimpArgs false
set_option linter.unusedVariables false
open Go Go.RowKit Sedge
namespace Go.Proofs.Ytcmggfpcbijcjaa
theorem some_lt' {w : World} {p : Nat} {o : Obj} (h : w.heap[p]? = some o) : p < w.heap.size := (Array.getElem?_eq_some_iff.1 h).1
theorem info22 : ∃ j, Try.prog.info? 22 = some j ∧ j.size ≠ 0 := by
  have h := finfo.info
  cases hj : Try.prog.info? 22 with
  | none => rw [hj] at h; cases h
  | some j => rw [hj] at h; simp at h; exact ⟨j, rfl, by omega⟩
theorem und142 : Try.prog.underlying 142 = some (.pointer 22) := by kernel_rfl
@[go_sem] theorem eql_same (w : World) (a : Addr) : (binOp .eql 142 (.pointer (some a)) (.pointer (some a))).run Try.prog w = .ok (.bool true) w := by
  obtain ⟨j, hj, _⟩ := info22
  exact run_eql_ptr_same w a und142 hj
@[go_sem] theorem neq_same (w : World) (a : Addr) : (binOp .neq 142 (.pointer (some a)) (.pointer (some a))).run Try.prog w = .ok (.bool false) w := by
  obtain ⟨j, hj, _⟩ := info22
  have h : ∀ d : Nat, (Op.equalIn (d + 1) 142 (.pointer (some a)) (.pointer (some a))).run Try.prog w = .ok true w := fun d => by
    simp [Op.equalIn, run_underlying und142, sizeOf, typeInfo, hj, run_sameAddr_same]
  simp only [binOp]
  simp [Op.equal, Op.maxDepth, h 9999]
/-- Block b is a row of cells, nothing of it frozen. -/
def Plain (w : World) (b : Nat) : Prop := ∃ c e, w.heap[b]? = some (.cells c e (0, 0))
theorem FW.plain {w : World} {b : Nat} {ws : List Nat} (h : FW w b ws) : Plain w b := by obtain ⟨c, e, h, _⟩ := h; exact ⟨c, e, h⟩
theorem Plain.grew {w w' : World} {b : Nat} (h : Plain w b) (g : Grew w w') : Plain w' b := by
  obtain ⟨c, e, h⟩ := h; exact ⟨c, e, by rw [g.below.block b (some_lt' h)]; exact h⟩
theorem eql_other {w : World} {a b i j : Nat} (ha : Plain w a) (hb : Plain w b) (hne : a ≠ b) : (binOp .eql 142 (.pointer (some ⟨a, i, none⟩)) (.pointer (some ⟨b, j, none⟩))).run Try.prog w = .ok (.bool false) w := by
  obtain ⟨t, hj, hs⟩ := info22
  obtain ⟨ca, ta, ha⟩ := ha
  obtain ⟨cb, tb, hb⟩ := hb
  exact run_eql_ptr_other w und142 hj hs (by intro e; cases e; exact hne rfl) ha hb
theorem neq_other {w : World} {a b i j : Nat} (ha : Plain w a) (hb : Plain w b) (hne : a ≠ b) : (binOp .neq 142 (.pointer (some ⟨a, i, none⟩)) (.pointer (some ⟨b, j, none⟩))).run Try.prog w = .ok (.bool true) w := by
  obtain ⟨t, hj, hs⟩ := info22
  obtain ⟨ca, ta, ha⟩ := ha
  obtain ⟨cb, tb, hb⟩ := hb
  have h : ∀ d : Nat, (Op.equalIn (d + 1) 142 (.pointer (some ⟨a, i, none⟩)) (.pointer (some ⟨b, j, none⟩))).run Try.prog w = .ok false w := fun d => by
    simp [Op.equalIn, run_underlying und142, sizeOf, typeInfo, hj, hs, run_sameAddr_other w (a := ⟨a, i, none⟩) (b := ⟨b, j, none⟩) (by intro e; cases e; exact hne rfl) ha hb]
  simp only [binOp]
  simp [Op.equal, Op.maxDepth, h 9999]
def listTo (x : VecM) (k : Nat) : List Nat := (List.range k).map x.num
theorem listTo_succ (x : VecM) (k : Nat) : listTo x (k + 1) = listTo x k ++ [x.num k] := by unfold listTo; rw [List.range_succ, List.map_append]; rfl
set_option maxRecDepth 100000 in
set_option maxHeartbeats 1000000 in
/-- straightedgeref03.List. -/
theorem list_any (x : VecM) (D : Value) (w : World) (hD : FS w D x.ws) (hx : x.right = true) (hwf : x.wf) (hl : x.ws.length ≤ 1000000) :
   Calls Try.prog 61 #[.agg #[D, .int .i64 x.off, .int .i64 x.n, .int .i64 x.inc]] w
     (fun e w' => ∃ v, e = .returned v ∧ FS w' v x.list ∧ ∃ o n, w' = ext w o n) := by
  have hn := VecM.right_n hx
  have hn2 := hwf.2.1.2
  have hnl : x.n ≤ 1000000 := by
    rcases Int.lt_or_le 0 x.n with h | h
    · have h1 := VecM.right_place hx (i := (x.n - 1).toNat) (by omega)
      have h2 : ((x.n - 1).toNat : Int) * 1 ≤ ((x.n - 1).toNat : Int) * x.inc := Int.mul_le_mul_of_nonneg_left (by omega) (by omega)
      omega
    · omega
  have Hx := hid hx
  have Hn := hid hn
  have Hn2 := hid hn2
  have Hnl := hid hnl
  clear hx hn hwf hn2 hnl
  go_enter Try.func61, Try.ntmps61
  refine seq_stop ?_
  go_wp2
  refine stop_go (fun W hW => ?_)
  have s1 : w.heap.size < W.heap.size := by rw [hW]; simp only [World.size_alloc]; omega
  have b1 : ∀ i, W.cell? ⟨w.heap.size, i, none⟩ = (#[D, .int .i64 x.off, .int .i64 x.n, .int .i64 x.inc] : Array Value)[i]? := by intro i; rw [hW]; go_simp
  have g0 : Grew w W := by rw [hW]; exact (Grew.refl _).alloc _
  clear hW
  have hDW : FS W D x.ws := hD.grew g0
  go_wp2
  go_loopw [3, 4] (fun v c wr => ∃ (i : Nat) (o : Array Obj) (n : Nat), (i : Int) ≤ x.n ∧ c = .int .i64 i ∧ wr = ext W o n ∧ OwnF 22 wr W.heap.size v (listTo x i)) (fun _ c _ => x.n.toNat - (intOf c).toNat)
  case atStart => exact ⟨0, #[], _, Hn.out.1, rfl, ext_zero.symm, by simpa [listTo] using OwnF.nil _ _ _⟩
  case round =>
    obtain ⟨i, o2, n2, hi, rfl, hwr, hown⟩ := hrel
    subst hwr
    by_cases hlt : (i : Int) < x.n
    · have hp := VecM.right_place Hx.out hlt
      have hnl := Hnl.out
      have hN := Hn.out
      have h2 : IntKind.i64.wrap (i * x.inc) = i * x.inc := IntWalk.i64_in _ (by omega)
      have h3 : IntKind.i64.wrap (x.off + i * x.inc) = x.off + i * x.inc := IntWalk.i64_in _ (by omega)
      obtain ⟨blk, o, cap', rfl, hblk, hc⟩ := hDW.open (by omega)
      obtain ⟨b, hb, hf⟩ := hc (x.place i) (by unfold VecM.place; omega)
      unfold VecM.place at hb
      have hf' : IsF b (x.num i) := hf
      have hll : (listTo x i).length = i := by simp [listTo]
      clear hc
      go_wp2_with (at_builtin; refine append1_f finfo (((Grew.refl W).ext _ _)) hown hf' (by rw [hll]; omega) _ _ rfl rfl rfl (by simp only [size_ext]) rfl ?_; intro v oo nn ho hn)
      go_roundw
      case rel => exact ⟨i + 1, oo, nn, by omega, by go_num, rfl, by rw [listTo_succ]; exact ho⟩
      case measure => simp [intOf]; omega
    · have e : x.n.toNat = i := by have := Hn.out; omega
      have hown' := hown
      rw [show listTo x i = x.list by unfold listTo VecM.list; rw [e]] at hown'
      have hfs := hown'.fs (by rw [VecM.list_length]; have := Hnl.out; omega)
      go_wp2
      go_ret
      exact ⟨_, rfl, hfs, by (show Grew _ _; repeat (first | (with_reducible exact Grew.refl _) | (with_reducible assumption) | (with_reducible exact Grew.same_o) | (with_reducible exact Grew.app_o) | (with_reducible refine Grew.ext ?_ _ _) | (with_reducible refine Grew.alloc ?_ _) | ((with_reducible refine Grew.setCell ?_ ?_ _); rotate_left; (focus (dsimp only; first | omega | (simp only [size_ext, World.size_alloc, Array.size_append]; omega)))) | (with_reducible refine Grew.drewN ?_ _) | (with_reducible refine Grew.drew ?_)))⟩
theorem VecM.right_nle {x : VecM} (hx : x.right = true) (hl : x.ws.length ≤ 1000000) : x.n ≤ 1000000 := by
  have hn := VecM.right_n hx
  rcases Int.lt_or_le 0 x.n with h | h
  · have h1 := VecM.right_place hx (i := (x.n - 1).toNat) (by omega)
    have h2 : ((x.n - 1).toNat : Int) * 1 ≤ ((x.n - 1).toNat : Int) * x.inc := Int.mul_le_mul_of_nonneg_left (by omega) (by omega)
    omega
  · omega
theorem meets_n0 (x y : VecM) (h : x.n = 0) : meetsB x y = false := by unfold meetsB meetsTo; rw [h]; rfl
set_option maxRecDepth 100000 in
set_option maxHeartbeats 1000000 in
/-- move.meet. -/
theorem meet_any (x y : VecM) (a b ca cb : Nat) (w : World) (hA : FS w (.slice (some ⟨a, 0, none⟩) x.ws.length ca) x.ws) (hB : FS w (.slice (some ⟨b, 0, none⟩) y.ws.length cb) y.ws) (hPa : Plain w a) (hPb : Plain w b) (hx : x.right = true) (hy : y.right = true) (hwx : x.wf) (hwy : y.wf) (hn : y.n = x.n) (hlx : x.ws.length ≤ 1000000) (hly : y.ws.length ≤ 1000000) :
   Calls Try.prog 142 #[.agg #[.slice (some ⟨a, 0, none⟩) x.ws.length ca, .int .i64 x.off, .int .i64 x.n, .int .i64 x.inc], .agg #[.slice (some ⟨b, 0, none⟩) y.ws.length cb, .int .i64 y.off, .int .i64 x.n, .int .i64 y.inc]] w
     (fun e w' => e = .returned (.bool (decide (a = b) && meetsB x y)) ∧ ∃ o n, w' = ext w o n) := by
  have hnx := VecM.right_n hx
  have hny := VecM.right_n hy
  have Hnx := hid hnx
  have Hny := hid hny
  by_cases h0 : x.n = 0
  · have d1 : (x.n == 0) = true := by simpa using h0
    have m0 := hid (meets_n0 x y h0)
    clear h0 hx hy hwx hwy hn hnx hny
    go_enter Try.func142, Try.ntmps142
    refine seq_stop ?_
    go_wp2
    refine stop_go (fun W hW => ?_)
    have s1 : w.heap.size < W.heap.size := by rw [hW]; simp only [World.size_alloc]; omega
    have b1 : ∀ i, W.cell? ⟨w.heap.size, i, none⟩ = (#[.slice (some ⟨a, 0, none⟩) x.ws.length ca, .int .i64 x.off, .int .i64 x.n, .int .i64 x.inc] : Array Value)[i]? := by intro i; rw [hW]; go_simp
    have s2 : w.heap.size + 1 < W.heap.size := by rw [hW]; simp only [World.size_alloc]; omega
    have b2 : ∀ i, W.cell? ⟨w.heap.size + 1, i, none⟩ = (#[.slice (some ⟨b, 0, none⟩) y.ws.length cb, .int .i64 y.off, .int .i64 x.n, .int .i64 y.inc] : Array Value)[i]? := by intro i; rw [hW]; go_simp
    have g0 : Grew w W := by rw [hW]; exact ((Grew.refl _).alloc _).alloc _
    clear hW
    go_wp2
    refine wp_region_R (Grew W) [] [(0,0), (0,1), (0,2), (0,3), (0,4), (0,5), (0,6), (0,7), (0,8), (0,9), (0,10), (0,11), (0,12), (0,13), (0,14), (0,15), (0,16)] (by kernel_rfl) (by kernel_rfl) (fun _ _ _ _ h _ => h) (by first | exact ⟨_, _, ext_drew⟩ | exact ⟨_, _, drew_ext0⟩ | (show Grew _ _; repeat (first | (with_reducible exact Grew.refl _) | (with_reducible assumption) | (with_reducible exact Grew.same_o) | (with_reducible exact Grew.app_o) | (with_reducible refine Grew.ext ?_ _ _) | (with_reducible refine Grew.alloc ?_ _) | ((with_reducible refine Grew.setCell ?_ ?_ _); rotate_left; (focus (dsimp only; first | omega | (simp only [size_ext, World.size_alloc, Array.size_append]; omega)))) | (with_reducible refine Grew.drewN ?_ _) | (with_reducible refine Grew.drew ?_)))) ?_
    go_wp2_with (first | ((with_reducible refine wpR_id ?_); first | (refine wpR_take (v := ?_) rfl rfl ?_ ?_; rotate_left; (focus (rintro w' ⟨o', n', rfl⟩; go_simp; try with_reducible rfl)); simp only [Act.put, List.setIfInBounds_toArray, List.set_cons_zero, List.set_cons_succ]) | (refine wpR_pure (v := ?_) rfl rfl ?_ ?_; rotate_left; (focus (intro w'; go_simp; try with_reducible rfl)); simp only [Act.put, List.setIfInBounds_toArray, List.set_cons_zero, List.set_cons_succ]) | (refine wpR_takeG (v := ?_) rfl rfl rfl rfl rfl ?_ ?_; rotate_left; (focus (rintro w' ⟨o', n', rfl⟩; go_simp; try with_reducible rfl)); simp only [Act.put, List.setIfInBounds_toArray, List.set_cons_zero, List.set_cons_succ]) | (refine wpR_skip rfl rfl rfl rfl rfl rfl ?_; simp only [Act.put, List.setIfInBounds_toArray, List.set_cons_zero, List.set_cons_succ]) | (refine wpR_skipU rfl rfl rfl rfl rfl ?_; simp only [Act.put, List.setIfInBounds_toArray, List.set_cons_zero, List.set_cons_succ]) | (refine wpR_do rfl rfl (fun K hK => ?_)) | (refine wpR_doG rfl rfl rfl rfl rfl (fun K hK => ?_)) | (refine wpR_last rfl rfl (fun K hK => ?_)) | (refine wpR_nil ?_)) | ((with_reducible refine wpR_go ?_ ?_); (focus exact ⟨_, _, rfl⟩)) | ((with_reducible refine upon_id ?_); refine upon_fop rfl (by assumption) (by assumption) ?_; intro rr nn hr))
    go_ret
    exact ⟨by simp [m0.out], by (show Grew _ _; repeat (first | (with_reducible exact Grew.refl _) | (with_reducible assumption) | (with_reducible exact Grew.same_o) | (with_reducible exact Grew.app_o) | (with_reducible refine Grew.ext ?_ _ _) | (with_reducible refine Grew.alloc ?_ _) | ((with_reducible refine Grew.setCell ?_ ?_ _); rotate_left; (focus (dsimp only; first | omega | (simp only [size_ext, World.size_alloc, Array.size_append]; omega)))) | (with_reducible refine Grew.drewN ?_ _) | (with_reducible refine Grew.drew ?_)))⟩
  · have d1 : (x.n == 0) = false := by simpa using h0
    have hp := VecM.right_place hx (i := 0) (by omega)
    have hq := VecM.right_place hy (i := 0) (by omega)
    have l1 : 0 < x.ws.length := by omega
    have l2 : 0 < y.ws.length := by omega
    have Hx := hid hx
    have Hy := hid hy
    have Hn := hid hn
    have hwi := hwy.2.2
    have hnl := VecM.right_nle Hx.out hlx
    unfold I64 at hwi
    clear hx hy hwx hwy hn
    go_enter Try.func142, Try.ntmps142
    refine seq_stop ?_
    go_wp2
    refine stop_go (fun W hW => ?_)
    have s1 : w.heap.size < W.heap.size := by rw [hW]; simp only [World.size_alloc]; omega
    have b1 : ∀ i, W.cell? ⟨w.heap.size, i, none⟩ = (#[.slice (some ⟨a, 0, none⟩) x.ws.length ca, .int .i64 x.off, .int .i64 x.n, .int .i64 x.inc] : Array Value)[i]? := by intro i; rw [hW]; go_simp
    have s2 : w.heap.size + 1 < W.heap.size := by rw [hW]; simp only [World.size_alloc]; omega
    have b2 : ∀ i, W.cell? ⟨w.heap.size + 1, i, none⟩ = (#[.slice (some ⟨b, 0, none⟩) y.ws.length cb, .int .i64 y.off, .int .i64 x.n, .int .i64 y.inc] : Array Value)[i]? := by intro i; rw [hW]; go_simp
    have g0 : Grew w W := by rw [hW]; exact ((Grew.refl _).alloc _).alloc _
    clear hW
    by_cases hab : a = b
    · subst hab
      go_wp2
      refine wp_region_R (Grew W) [] [(0,0), (0,1), (0,2), (0,3), (0,4), (0,5), (0,6), (0,7), (0,8), (0,9), (0,10), (0,11), (0,12), (0,13), (0,14), (0,15), (0,16)] (by kernel_rfl) (by kernel_rfl) (fun _ _ _ _ h _ => h) (by first | exact ⟨_, _, ext_drew⟩ | exact ⟨_, _, drew_ext0⟩ | (show Grew _ _; repeat (first | (with_reducible exact Grew.refl _) | (with_reducible assumption) | (with_reducible exact Grew.same_o) | (with_reducible exact Grew.app_o) | (with_reducible refine Grew.ext ?_ _ _) | (with_reducible refine Grew.alloc ?_ _) | ((with_reducible refine Grew.setCell ?_ ?_ _); rotate_left; (focus (dsimp only; first | omega | (simp only [size_ext, World.size_alloc, Array.size_append]; omega)))) | (with_reducible refine Grew.drewN ?_ _) | (with_reducible refine Grew.drew ?_)))) ?_
      go_wp2_with (first | ((with_reducible refine wpR_id ?_); first | (refine wpR_take (v := ?_) rfl rfl ?_ ?_; rotate_left; (focus (rintro w' ⟨o', n', rfl⟩; go_simp; try with_reducible rfl)); simp only [Act.put, List.setIfInBounds_toArray, List.set_cons_zero, List.set_cons_succ]) | (refine wpR_pure (v := ?_) rfl rfl ?_ ?_; rotate_left; (focus (intro w'; go_simp; try with_reducible rfl)); simp only [Act.put, List.setIfInBounds_toArray, List.set_cons_zero, List.set_cons_succ]) | (refine wpR_takeG (v := ?_) rfl rfl rfl rfl rfl ?_ ?_; rotate_left; (focus (rintro w' ⟨o', n', rfl⟩; go_simp; try with_reducible rfl)); simp only [Act.put, List.setIfInBounds_toArray, List.set_cons_zero, List.set_cons_succ]) | (refine wpR_skip rfl rfl rfl rfl rfl rfl ?_; simp only [Act.put, List.setIfInBounds_toArray, List.set_cons_zero, List.set_cons_succ]) | (refine wpR_skipU rfl rfl rfl rfl rfl ?_; simp only [Act.put, List.setIfInBounds_toArray, List.set_cons_zero, List.set_cons_succ]) | (refine wpR_do rfl rfl (fun K hK => ?_)) | (refine wpR_doG rfl rfl rfl rfl rfl (fun K hK => ?_)) | (refine wpR_last rfl rfl (fun K hK => ?_)) | (refine wpR_nil ?_)) | ((with_reducible refine wpR_go ?_ ?_); (focus exact ⟨_, _, rfl⟩)) | ((with_reducible refine upon_id ?_); refine upon_fop rfl (by assumption) (by assumption) ?_; intro rr nn hr))
      go_loopw [26] (fun c wr => ∃ (i : Nat) (o : Array Obj) (n : Nat), (i : Int) ≤ x.n ∧ c = .int .i64 i ∧ wr = ext W o n ∧ meetsTo x y i = false) (fun c _ => x.n.toNat - (intOf c).toNat)
      case atStart => exact ⟨0, _, _, hnx.1, rfl, by first | rfl | exact drew_ext0 | exact ext_drew, rfl⟩
      case round =>
        obtain ⟨i, o2, n2, hi, rfl, hwr, hm⟩ := hrel
        subst hwr
        have Hm := hid hm
        clear hm
        by_cases hlt : (i : Int) < x.n
        · have hp := VecM.right_place Hx.out hlt
          have Hlt := hid hlt
          have r1 : IntKind.i64.wrap (i * x.inc) = i * x.inc := IntWalk.i64_in _ (by omega)
          have r2 : IntKind.i64.wrap (x.off + i * x.inc) = x.off + i * x.inc := IntWalk.i64_in _ (by omega)
          have r3 : IntKind.i64.wrap (x.off + i * x.inc - y.off) = x.off + i * x.inc - y.off := IntWalk.i64_in _ (by omega)
          have hB := hid (hit_B (x.off + i * x.inc) y hny.2.1)
          have hS := hid (meetsTo_succ x y i)
          obtain ⟨f, hf⟩ : ∃ f, Hid (x.off + i * x.inc - y.off = f) := ⟨_, hid rfl⟩
          have hfl : f ≤ 1000000 := by have := hf.out; omega
          rw [hf.out] at r3
          have e3 := hf.out
          have ny : y.inc ≠ 0 := by omega
          have ny' : ¬ y.inc = 0 := ny
          by_cases g1 : 0 ≤ f
          · have t1 : f.tmod y.inc = f % y.inc := Int.tmod_eq_emod_of_nonneg g1
            have t2 : f.tdiv y.inc = f / y.inc := Int.tdiv_eq_ediv_of_nonneg g1
            have t3 : 0 ≤ f / y.inc := Int.ediv_nonneg g1 (by omega)
            have t4 : f / y.inc ≤ f := Int.ediv_le_self _ g1
            have t5 : 0 ≤ f % y.inc := Int.emod_nonneg _ ny
            have t6 : f % y.inc < y.inc := Int.emod_lt_of_pos _ (by omega)
            have w1 : IntKind.i64.wrap (f % y.inc) = f % y.inc := IntWalk.i64_in _ (by omega)
            have w2 : IntKind.i64.wrap (f / y.inc) = f / y.inc := IntWalk.i64_in _ (by omega)
            have d5 : decide (0 ≤ f) = true := by simpa using g1
            by_cases g2 : f % y.inc = 0
            · have d6 : (f % y.inc == 0) = true := by simpa using g2
              by_cases g3 : f / y.inc < x.n
              · have d7 : decide (f / y.inc < x.n) = true := by simpa using g3
                have hit : meetsTo x y (i + 1) = true := by
                  rw [hS.out, Hm.out, Bool.false_or]
                  have : hitTo (x.off + i * x.inc) y y.n.toNat = true := by
                    rw [← hB.out, hf.out, d5, show decide (f % y.inc = 0) = true by simpa using g2, Hn.out, d7]; rfl
                  exact this
                have q := hid (show meetsB x y = true from meetsTo_mono hit (show i + 1 ≤ x.n.toNat by omega))
                clear g2 g3 hit
                go_wp2
                refine wp_region_R (Grew W) [] [(0,0), (0,1), (0,2), (0,3), (0,4), (0,5), (0,6), (0,7), (0,8), (0,9), (0,10), (0,11), (0,12), (0,13), (0,14), (0,15), (0,16), (0,17)] (by kernel_rfl) (by kernel_rfl) (fun _ _ _ _ h _ => h) (by first | exact ⟨_, _, ext_drew⟩ | exact ⟨_, _, drew_ext0⟩ | (show Grew _ _; repeat (first | (with_reducible exact Grew.refl _) | (with_reducible assumption) | (with_reducible exact Grew.same_o) | (with_reducible exact Grew.app_o) | (with_reducible refine Grew.ext ?_ _ _) | (with_reducible refine Grew.alloc ?_ _) | ((with_reducible refine Grew.setCell ?_ ?_ _); rotate_left; (focus (dsimp only; first | omega | (simp only [size_ext, World.size_alloc, Array.size_append]; omega)))) | (with_reducible refine Grew.drewN ?_ _) | (with_reducible refine Grew.drew ?_)))) ?_
                go_wp2_with (first | ((with_reducible refine wpR_id ?_); first | (refine wpR_take (v := ?_) rfl rfl ?_ ?_; rotate_left; (focus (rintro w' ⟨o', n', rfl⟩; go_simp; try with_reducible rfl)); simp only [Act.put, List.setIfInBounds_toArray, List.set_cons_zero, List.set_cons_succ]) | (refine wpR_pure (v := ?_) rfl rfl ?_ ?_; rotate_left; (focus (intro w'; go_simp; try with_reducible rfl)); simp only [Act.put, List.setIfInBounds_toArray, List.set_cons_zero, List.set_cons_succ]) | (refine wpR_takeG (v := ?_) rfl rfl rfl rfl rfl ?_ ?_; rotate_left; (focus (rintro w' ⟨o', n', rfl⟩; go_simp; try with_reducible rfl)); simp only [Act.put, List.setIfInBounds_toArray, List.set_cons_zero, List.set_cons_succ]) | (refine wpR_skip rfl rfl rfl rfl rfl rfl ?_; simp only [Act.put, List.setIfInBounds_toArray, List.set_cons_zero, List.set_cons_succ]) | (refine wpR_skipU rfl rfl rfl rfl rfl ?_; simp only [Act.put, List.setIfInBounds_toArray, List.set_cons_zero, List.set_cons_succ]) | (refine wpR_do rfl rfl (fun K hK => ?_)) | (refine wpR_doG rfl rfl rfl rfl rfl (fun K hK => ?_)) | (refine wpR_last rfl rfl (fun K hK => ?_)) | (refine wpR_nil ?_)) | ((with_reducible refine wpR_go ?_ ?_); (focus exact ⟨_, _, rfl⟩)) | ((with_reducible refine upon_id ?_); refine upon_fop rfl (by assumption) (by assumption) ?_; intro rr nn hr))
                go_ret
                exact ⟨ret_bool q.out.symm, by (show Grew _ _; repeat (first | (with_reducible exact Grew.refl _) | (with_reducible assumption) | (with_reducible exact Grew.same_o) | (with_reducible exact Grew.app_o) | (with_reducible refine Grew.ext ?_ _ _) | (with_reducible refine Grew.alloc ?_ _) | ((with_reducible refine Grew.setCell ?_ ?_ _); rotate_left; (focus (dsimp only; first | omega | (simp only [size_ext, World.size_alloc, Array.size_append]; omega)))) | (with_reducible refine Grew.drewN ?_ _) | (with_reducible refine Grew.drew ?_)))⟩
              · have d7 : decide (f / y.inc < x.n) = false := by simpa using g3
                have miss : meetsTo x y (i + 1) = false := by
                  rw [hS.out, Hm.out, Bool.false_or]
                  have : hitTo (x.off + i * x.inc) y y.n.toNat = false := by
                    rw [← hB.out, hf.out, Hn.out]; rw [d7]; simp
                  exact this
                go_wp2
                refine wp_region_R (Grew W) [] [(0,0), (0,1), (0,2), (0,3), (0,4), (0,5), (0,6), (0,7), (0,8), (0,9), (0,10), (0,11), (0,12), (0,13), (0,14), (0,15), (0,16), (0,17)] (by kernel_rfl) (by kernel_rfl) (fun _ _ _ _ h _ => h) (by first | exact ⟨_, _, ext_drew⟩ | exact ⟨_, _, drew_ext0⟩ | (show Grew _ _; repeat (first | (with_reducible exact Grew.refl _) | (with_reducible assumption) | (with_reducible exact Grew.same_o) | (with_reducible exact Grew.app_o) | (with_reducible refine Grew.ext ?_ _ _) | (with_reducible refine Grew.alloc ?_ _) | ((with_reducible refine Grew.setCell ?_ ?_ _); rotate_left; (focus (dsimp only; first | omega | (simp only [size_ext, World.size_alloc, Array.size_append]; omega)))) | (with_reducible refine Grew.drewN ?_ _) | (with_reducible refine Grew.drew ?_)))) ?_
                go_wp2_with (first | ((with_reducible refine wpR_id ?_); first | (refine wpR_take (v := ?_) rfl rfl ?_ ?_; rotate_left; (focus (rintro w' ⟨o', n', rfl⟩; go_simp; try with_reducible rfl)); simp only [Act.put, List.setIfInBounds_toArray, List.set_cons_zero, List.set_cons_succ]) | (refine wpR_pure (v := ?_) rfl rfl ?_ ?_; rotate_left; (focus (intro w'; go_simp; try with_reducible rfl)); simp only [Act.put, List.setIfInBounds_toArray, List.set_cons_zero, List.set_cons_succ]) | (refine wpR_takeG (v := ?_) rfl rfl rfl rfl rfl ?_ ?_; rotate_left; (focus (rintro w' ⟨o', n', rfl⟩; go_simp; try with_reducible rfl)); simp only [Act.put, List.setIfInBounds_toArray, List.set_cons_zero, List.set_cons_succ]) | (refine wpR_skip rfl rfl rfl rfl rfl rfl ?_; simp only [Act.put, List.setIfInBounds_toArray, List.set_cons_zero, List.set_cons_succ]) | (refine wpR_skipU rfl rfl rfl rfl rfl ?_; simp only [Act.put, List.setIfInBounds_toArray, List.set_cons_zero, List.set_cons_succ]) | (refine wpR_do rfl rfl (fun K hK => ?_)) | (refine wpR_doG rfl rfl rfl rfl rfl (fun K hK => ?_)) | (refine wpR_last rfl rfl (fun K hK => ?_)) | (refine wpR_nil ?_)) | ((with_reducible refine wpR_go ?_ ?_); (focus exact ⟨_, _, rfl⟩)) | ((with_reducible refine upon_id ?_); refine upon_fop rfl (by assumption) (by assumption) ?_; intro rr nn hr))
                go_roundw
                case rel => exact ⟨i + 1, _, _, by have := Hlt.out; omega, by go_num, rfl, miss⟩
                case measure => (have := Hlt.out; simp [intOf]; omega)
            · have d6 : (f % y.inc == 0) = false := by simpa using g2
              have miss : meetsTo x y (i + 1) = false := by
                rw [hS.out, Hm.out, Bool.false_or]
                have : hitTo (x.off + i * x.inc) y y.n.toNat = false := by
                  rw [← hB.out, hf.out, Hn.out]; rw [show decide (f % y.inc = 0) = false by simpa using g2]; simp
                exact this
              go_wp2
              refine wp_region_R (Grew W) [] [(0,0), (0,1), (0,2), (0,3), (0,4), (0,5), (0,6), (0,7), (0,8), (0,9), (0,10), (0,11), (0,12), (0,13), (0,14), (0,15), (0,16), (0,17)] (by kernel_rfl) (by kernel_rfl) (fun _ _ _ _ h _ => h) (by first | exact ⟨_, _, ext_drew⟩ | exact ⟨_, _, drew_ext0⟩ | (show Grew _ _; repeat (first | (with_reducible exact Grew.refl _) | (with_reducible assumption) | (with_reducible exact Grew.same_o) | (with_reducible exact Grew.app_o) | (with_reducible refine Grew.ext ?_ _ _) | (with_reducible refine Grew.alloc ?_ _) | ((with_reducible refine Grew.setCell ?_ ?_ _); rotate_left; (focus (dsimp only; first | omega | (simp only [size_ext, World.size_alloc, Array.size_append]; omega)))) | (with_reducible refine Grew.drewN ?_ _) | (with_reducible refine Grew.drew ?_)))) ?_
              go_wp2_with (first | ((with_reducible refine wpR_id ?_); first | (refine wpR_take (v := ?_) rfl rfl ?_ ?_; rotate_left; (focus (rintro w' ⟨o', n', rfl⟩; go_simp; try with_reducible rfl)); simp only [Act.put, List.setIfInBounds_toArray, List.set_cons_zero, List.set_cons_succ]) | (refine wpR_pure (v := ?_) rfl rfl ?_ ?_; rotate_left; (focus (intro w'; go_simp; try with_reducible rfl)); simp only [Act.put, List.setIfInBounds_toArray, List.set_cons_zero, List.set_cons_succ]) | (refine wpR_takeG (v := ?_) rfl rfl rfl rfl rfl ?_ ?_; rotate_left; (focus (rintro w' ⟨o', n', rfl⟩; go_simp; try with_reducible rfl)); simp only [Act.put, List.setIfInBounds_toArray, List.set_cons_zero, List.set_cons_succ]) | (refine wpR_skip rfl rfl rfl rfl rfl rfl ?_; simp only [Act.put, List.setIfInBounds_toArray, List.set_cons_zero, List.set_cons_succ]) | (refine wpR_skipU rfl rfl rfl rfl rfl ?_; simp only [Act.put, List.setIfInBounds_toArray, List.set_cons_zero, List.set_cons_succ]) | (refine wpR_do rfl rfl (fun K hK => ?_)) | (refine wpR_doG rfl rfl rfl rfl rfl (fun K hK => ?_)) | (refine wpR_last rfl rfl (fun K hK => ?_)) | (refine wpR_nil ?_)) | ((with_reducible refine wpR_go ?_ ?_); (focus exact ⟨_, _, rfl⟩)) | ((with_reducible refine upon_id ?_); refine upon_fop rfl (by assumption) (by assumption) ?_; intro rr nn hr))
              go_roundw
              case rel => exact ⟨i + 1, _, _, by have := Hlt.out; omega, by go_num, rfl, miss⟩
              case measure => (have := Hlt.out; simp [intOf]; omega)
          · have d5 : decide (0 ≤ f) = false := by simpa using g1
            have miss : meetsTo x y (i + 1) = false := by
              rw [hS.out, Hm.out, Bool.false_or]
              have : hitTo (x.off + i * x.inc) y y.n.toNat = false := by
                rw [← hB.out, hf.out, Hn.out]; rw [d5]; simp
              exact this
            go_wp2
            refine wp_region_R (Grew W) [] [(0,0), (0,1), (0,2), (0,3), (0,4), (0,5), (0,6), (0,7), (0,8), (0,9), (0,10), (0,11), (0,12), (0,13), (0,14), (0,15), (0,16), (0,17)] (by kernel_rfl) (by kernel_rfl) (fun _ _ _ _ h _ => h) (by first | exact ⟨_, _, ext_drew⟩ | exact ⟨_, _, drew_ext0⟩ | (show Grew _ _; repeat (first | (with_reducible exact Grew.refl _) | (with_reducible assumption) | (with_reducible exact Grew.same_o) | (with_reducible exact Grew.app_o) | (with_reducible refine Grew.ext ?_ _ _) | (with_reducible refine Grew.alloc ?_ _) | ((with_reducible refine Grew.setCell ?_ ?_ _); rotate_left; (focus (dsimp only; first | omega | (simp only [size_ext, World.size_alloc, Array.size_append]; omega)))) | (with_reducible refine Grew.drewN ?_ _) | (with_reducible refine Grew.drew ?_)))) ?_
            go_wp2_with (first | ((with_reducible refine wpR_id ?_); first | (refine wpR_take (v := ?_) rfl rfl ?_ ?_; rotate_left; (focus (rintro w' ⟨o', n', rfl⟩; go_simp; try with_reducible rfl)); simp only [Act.put, List.setIfInBounds_toArray, List.set_cons_zero, List.set_cons_succ]) | (refine wpR_pure (v := ?_) rfl rfl ?_ ?_; rotate_left; (focus (intro w'; go_simp; try with_reducible rfl)); simp only [Act.put, List.setIfInBounds_toArray, List.set_cons_zero, List.set_cons_succ]) | (refine wpR_takeG (v := ?_) rfl rfl rfl rfl rfl ?_ ?_; rotate_left; (focus (rintro w' ⟨o', n', rfl⟩; go_simp; try with_reducible rfl)); simp only [Act.put, List.setIfInBounds_toArray, List.set_cons_zero, List.set_cons_succ]) | (refine wpR_skip rfl rfl rfl rfl rfl rfl ?_; simp only [Act.put, List.setIfInBounds_toArray, List.set_cons_zero, List.set_cons_succ]) | (refine wpR_skipU rfl rfl rfl rfl rfl ?_; simp only [Act.put, List.setIfInBounds_toArray, List.set_cons_zero, List.set_cons_succ]) | (refine wpR_do rfl rfl (fun K hK => ?_)) | (refine wpR_doG rfl rfl rfl rfl rfl (fun K hK => ?_)) | (refine wpR_last rfl rfl (fun K hK => ?_)) | (refine wpR_nil ?_)) | ((with_reducible refine wpR_go ?_ ?_); (focus exact ⟨_, _, rfl⟩)) | ((with_reducible refine upon_id ?_); refine upon_fop rfl (by assumption) (by assumption) ?_; intro rr nn hr))
            go_roundw
            case rel => exact ⟨i + 1, _, _, by have := Hlt.out; omega, by go_num, rfl, miss⟩
            case measure => (have := Hlt.out; simp [intOf]; omega)
        · have q := hid (show meetsB x y = false by unfold meetsB; rw [show x.n.toNat = i by omega]; exact Hm.out)
          go_wp2
          go_ret
          exact ⟨ret_bool q.out.symm, by (show Grew _ _; repeat (first | (with_reducible exact Grew.refl _) | (with_reducible assumption) | (with_reducible exact Grew.same_o) | (with_reducible exact Grew.app_o) | (with_reducible refine Grew.ext ?_ _ _) | (with_reducible refine Grew.alloc ?_ _) | ((with_reducible refine Grew.setCell ?_ ?_ _); rotate_left; (focus (dsimp only; first | omega | (simp only [size_ext, World.size_alloc, Array.size_append]; omega)))) | (with_reducible refine Grew.drewN ?_ _) | (with_reducible refine Grew.drew ?_)))⟩
    · have hne : ∀ o n, (binOp .neq 142 (.pointer (some ⟨a, 0, none⟩)) (.pointer (some ⟨b, 0, none⟩))).run Try.prog (ext W o n) = .ok (.bool true) (ext W o n) := fun o n => neq_other ((hPa.grew g0).grew ⟨_, _, rfl⟩) ((hPb.grew g0).grew ⟨_, _, rfl⟩) hab
      have q := hid (show (decide (a = b) && meetsB x y) = false by simp [hab])
      go_wp2
      refine wp_region_R (Grew W) [] [(0,0), (0,1), (0,2), (0,3), (0,4), (0,5), (0,6), (0,7), (0,8), (0,9), (0,10), (0,11), (0,12), (0,13), (0,14), (0,15), (0,16)] (by kernel_rfl) (by kernel_rfl) (fun _ _ _ _ h _ => h) (by first | exact ⟨_, _, ext_drew⟩ | exact ⟨_, _, drew_ext0⟩ | (show Grew _ _; repeat (first | (with_reducible exact Grew.refl _) | (with_reducible assumption) | (with_reducible exact Grew.same_o) | (with_reducible exact Grew.app_o) | (with_reducible refine Grew.ext ?_ _ _) | (with_reducible refine Grew.alloc ?_ _) | ((with_reducible refine Grew.setCell ?_ ?_ _); rotate_left; (focus (dsimp only; first | omega | (simp only [size_ext, World.size_alloc, Array.size_append]; omega)))) | (with_reducible refine Grew.drewN ?_ _) | (with_reducible refine Grew.drew ?_)))) ?_
      go_wp2_with (first | ((with_reducible refine wpR_id ?_); first | (refine wpR_take (v := ?_) rfl rfl ?_ ?_; rotate_left; (focus (rintro w' ⟨o', n', rfl⟩; go_simp; try with_reducible rfl)); simp only [Act.put, List.setIfInBounds_toArray, List.set_cons_zero, List.set_cons_succ]) | (refine wpR_pure (v := ?_) rfl rfl ?_ ?_; rotate_left; (focus (intro w'; go_simp; try with_reducible rfl)); simp only [Act.put, List.setIfInBounds_toArray, List.set_cons_zero, List.set_cons_succ]) | (refine wpR_takeG (v := ?_) rfl rfl rfl rfl rfl ?_ ?_; rotate_left; (focus (rintro w' ⟨o', n', rfl⟩; go_simp; try with_reducible rfl)); simp only [Act.put, List.setIfInBounds_toArray, List.set_cons_zero, List.set_cons_succ]) | (refine wpR_skip rfl rfl rfl rfl rfl rfl ?_; simp only [Act.put, List.setIfInBounds_toArray, List.set_cons_zero, List.set_cons_succ]) | (refine wpR_skipU rfl rfl rfl rfl rfl ?_; simp only [Act.put, List.setIfInBounds_toArray, List.set_cons_zero, List.set_cons_succ]) | (refine wpR_do rfl rfl (fun K hK => ?_)) | (refine wpR_doG rfl rfl rfl rfl rfl (fun K hK => ?_)) | (refine wpR_last rfl rfl (fun K hK => ?_)) | (refine wpR_nil ?_)) | ((with_reducible refine wpR_go ?_ ?_); (focus exact ⟨_, _, rfl⟩)) | ((with_reducible refine upon_id ?_); refine upon_fop rfl (by assumption) (by assumption) ?_; intro rr nn hr))
      go_ret
      exact ⟨ret_bool q.out.symm, by (show Grew _ _; repeat (first | (with_reducible exact Grew.refl _) | (with_reducible assumption) | (with_reducible exact Grew.same_o) | (with_reducible exact Grew.app_o) | (with_reducible refine Grew.ext ?_ _ _) | (with_reducible refine Grew.alloc ?_ _) | ((with_reducible refine Grew.setCell ?_ ?_ _); rotate_left; (focus (dsimp only; first | omega | (simp only [size_ext, World.size_alloc, Array.size_append]; omega)))) | (with_reducible refine Grew.drewN ?_ _) | (with_reducible refine Grew.drew ?_)))⟩
end Go.Proofs.Ytcmggfpcbijcjaa
end
section
/-
  Contracts: view.span, view.Meet; straightedgeref07.MatSpan, VecSpan, Spans.
-/
set_option linter.unusedSimpArgs false
set_option linter.unusedVariables false
open Go Go.RowKit Sedge
namespace Go.Proofs.Ytcmggfpcbijcjaa
def MatM.full (m : MatM) : Bool := m.good && !(m.rows == 0) && !(m.cols == 0)
def spanLo (m : MatM) : Int := if MatM.full m = true then m.off else 0
def spanHi (m : MatM) : Int := if MatM.full m = true then m.off + (m.cols - 1) * m.ld + m.rows - 1 else 0
theorem MatM.full_place {m : MatM} (h : MatM.full m = true) : m.good = true ∧ 1 ≤ m.rows ∧ 1 ≤ m.cols ∧ 0 ≤ (m.cols - 1) * m.ld ∧ 0 ≤ m.off ∧ m.off + (m.cols - 1) * m.ld + m.rows - 1 < m.ws.length := by
  unfold MatM.full at h
  simp only [Bool.and_eq_true, Bool.not_eq_true', beq_eq_false_iff_ne] at h
  obtain ⟨⟨h1, h2⟩, h3⟩ := h
  have hn := m.good_n h1
  have hp := MatM.good_place h1 (i := (m.rows - 1).toNat) (j := (m.cols - 1).toNat) (by omega) (by omega)
  rw [Int.toNat_of_nonneg (by omega), Int.toNat_of_nonneg (by omega)] at hp
  refine ⟨h1, by omega, by omega, hp.2.2, hn.2.2.1, by omega⟩
theorem ret_tuple3 {a b a' b' : Int} {c c' : Bool} (h1 : a = a') (h2 : b = b') (h3 : c = c') : Ending.returned (.tuple #[.int .i64 a, .int .i64 b, .bool c]) = .returned (.tuple #[.int .i64 a', .int .i64 b', .bool c']) := by rw [h1, h2, h3]
set_option maxRecDepth 100000 in
set_option maxHeartbeats 1000000 in
/-- view.span. -/
theorem span_any (x : MatM) (D : Value) (w : World) (hD : FS w D x.ws) (hwf : x.wf) (hl : x.ws.length ≤ 1000000) :
   Calls Try.prog 194 #[.agg #[D, .int .i64 x.off, .int .i64 x.rows, .int .i64 x.cols, .int .i64 x.ld]] w
     (fun e w' => e = .returned (.tuple #[.int .i64 (spanLo x), .int .i64 (spanHi x), .bool (MatM.full x)]) ∧ ∃ o n, w' = ext w o n) := by
  have Hw := hid hwf
  clear hwf
  cases hf : MatM.full x
  · have q1 := hid (show spanLo x = 0 by unfold spanLo; rw [hf]; rfl)
    have q2 := hid (show spanHi x = 0 by unfold spanHi; rw [hf]; rfl)
    cases hg : x.good
    · clear hf
      go_enter Try.func194, Try.ntmps194
      refine seq_stop ?_
      go_wp2
      refine stop_go (fun W hW => ?_)
      have s1 : w.heap.size < W.heap.size := by rw [hW]; simp only [World.size_alloc]; omega
      have b1 : ∀ i, W.cell? ⟨w.heap.size, i, none⟩ = (#[D, .int .i64 x.off, .int .i64 x.rows, .int .i64 x.cols, .int .i64 x.ld] : Array Value)[i]? := by intro i; rw [hW]; go_simp
      have g0 : Grew w W := by rw [hW]; exact (Grew.refl _).alloc _
      clear hW
      have hDW := hD.grew g0
      go_wp2_with (first | (go_at_call 130; ((with_reducible refine (good_any x _ _ ?_ Hw.out).mono ?_); (focus (first | (with_reducible assumption) | (with_reducible refine FS.ext ?_ _ _; with_reducible assumption) | (with_reducible refine IS.ext ?_ _ _; with_reducible assumption) | (refine hDu _ ?_; with_reducible assumption) | (refine hOu _ ?_; with_reducible assumption) | (refine hDa _ ?_; with_reducible assumption) | (refine hDb _ ?_; with_reducible assumption) | (refine hDc _ ?_; with_reducible assumption) | (refine hDd _ ?_; with_reducible assumption) | (refine FW.fs ?_ (by omega) _; with_reducible assumption) | (refine WS.fs ?_; with_reducible assumption) | (refine FW.fs ?_ (by omega) _; assumption) | omega | assumption)); rintro e w1 ⟨rfl, o1, n1, rfl⟩)))
      refine bodyPost_ret (v := .tuple #[.int .i64 0, .int .i64 0, .bool false]) (by simp [results, Try.results194, go_sem, *]) rfl ?_
      exact ⟨ret_tuple3 q1.out.symm q2.out.symm rfl, by (show Grew _ _; repeat (first | (with_reducible exact Grew.refl _) | (with_reducible assumption) | (with_reducible exact Grew.same_o) | (with_reducible exact Grew.app_o) | (with_reducible refine Grew.ext ?_ _ _) | (with_reducible refine Grew.alloc ?_ _) | ((with_reducible refine Grew.setCell ?_ ?_ _); rotate_left; (focus (dsimp only; first | omega | (simp only [size_ext, World.size_alloc, Array.size_append]; omega)))) | (with_reducible refine Grew.drewN ?_ _) | (with_reducible refine Grew.drew ?_)))⟩
    · cases hr : (x.rows == 0)
      · have hc : (x.cols == 0) = true := by
          unfold MatM.full at hf; rw [hg, hr] at hf; simpa using hf
        clear hf
        go_enter Try.func194, Try.ntmps194
        refine seq_stop ?_
        go_wp2
        refine stop_go (fun W hW => ?_)
        have s1 : w.heap.size < W.heap.size := by rw [hW]; simp only [World.size_alloc]; omega
        have b1 : ∀ i, W.cell? ⟨w.heap.size, i, none⟩ = (#[D, .int .i64 x.off, .int .i64 x.rows, .int .i64 x.cols, .int .i64 x.ld] : Array Value)[i]? := by intro i; rw [hW]; go_simp
        have g0 : Grew w W := by rw [hW]; exact (Grew.refl _).alloc _
        clear hW
        have hDW := hD.grew g0
        go_wp2_with (first | (go_at_call 130; ((with_reducible refine (good_any x _ _ ?_ Hw.out).mono ?_); (focus (first | (with_reducible assumption) | (with_reducible refine FS.ext ?_ _ _; with_reducible assumption) | (with_reducible refine IS.ext ?_ _ _; with_reducible assumption) | (refine hDu _ ?_; with_reducible assumption) | (refine hOu _ ?_; with_reducible assumption) | (refine hDa _ ?_; with_reducible assumption) | (refine hDb _ ?_; with_reducible assumption) | (refine hDc _ ?_; with_reducible assumption) | (refine hDd _ ?_; with_reducible assumption) | (refine FW.fs ?_ (by omega) _; with_reducible assumption) | (refine WS.fs ?_; with_reducible assumption) | (refine FW.fs ?_ (by omega) _; assumption) | omega | assumption)); rintro e w1 ⟨rfl, o1, n1, rfl⟩)))
        refine bodyPost_ret (v := .tuple #[.int .i64 0, .int .i64 0, .bool false]) (by simp [results, Try.results194, go_sem, *]) rfl ?_
        exact ⟨ret_tuple3 q1.out.symm q2.out.symm rfl, by (show Grew _ _; repeat (first | (with_reducible exact Grew.refl _) | (with_reducible assumption) | (with_reducible exact Grew.same_o) | (with_reducible exact Grew.app_o) | (with_reducible refine Grew.ext ?_ _ _) | (with_reducible refine Grew.alloc ?_ _) | ((with_reducible refine Grew.setCell ?_ ?_ _); rotate_left; (focus (dsimp only; first | omega | (simp only [size_ext, World.size_alloc, Array.size_append]; omega)))) | (with_reducible refine Grew.drewN ?_ _) | (with_reducible refine Grew.drew ?_)))⟩
      · clear hf
        go_enter Try.func194, Try.ntmps194
        refine seq_stop ?_
        go_wp2
        refine stop_go (fun W hW => ?_)
        have s1 : w.heap.size < W.heap.size := by rw [hW]; simp only [World.size_alloc]; omega
        have b1 : ∀ i, W.cell? ⟨w.heap.size, i, none⟩ = (#[D, .int .i64 x.off, .int .i64 x.rows, .int .i64 x.cols, .int .i64 x.ld] : Array Value)[i]? := by intro i; rw [hW]; go_simp
        have g0 : Grew w W := by rw [hW]; exact (Grew.refl _).alloc _
        clear hW
        have hDW := hD.grew g0
        go_wp2_with (first | (go_at_call 130; ((with_reducible refine (good_any x _ _ ?_ Hw.out).mono ?_); (focus (first | (with_reducible assumption) | (with_reducible refine FS.ext ?_ _ _; with_reducible assumption) | (with_reducible refine IS.ext ?_ _ _; with_reducible assumption) | (refine hDu _ ?_; with_reducible assumption) | (refine hOu _ ?_; with_reducible assumption) | (refine hDa _ ?_; with_reducible assumption) | (refine hDb _ ?_; with_reducible assumption) | (refine hDc _ ?_; with_reducible assumption) | (refine hDd _ ?_; with_reducible assumption) | (refine FW.fs ?_ (by omega) _; with_reducible assumption) | (refine WS.fs ?_; with_reducible assumption) | (refine FW.fs ?_ (by omega) _; assumption) | omega | assumption)); rintro e w1 ⟨rfl, o1, n1, rfl⟩)))
        refine bodyPost_ret (v := .tuple #[.int .i64 0, .int .i64 0, .bool false]) (by simp [results, Try.results194, go_sem, *]) rfl ?_
        exact ⟨ret_tuple3 q1.out.symm q2.out.symm rfl, by (show Grew _ _; repeat (first | (with_reducible exact Grew.refl _) | (with_reducible assumption) | (with_reducible exact Grew.same_o) | (with_reducible exact Grew.app_o) | (with_reducible refine Grew.ext ?_ _ _) | (with_reducible refine Grew.alloc ?_ _) | ((with_reducible refine Grew.setCell ?_ ?_ _); rotate_left; (focus (dsimp only; first | omega | (simp only [size_ext, World.size_alloc, Array.size_append]; omega)))) | (with_reducible refine Grew.drewN ?_ _) | (with_reducible refine Grew.drew ?_)))⟩
  · have hp := MatM.full_place hf
    have q1 := hid (show spanLo x = x.off by unfold spanLo; rw [hf]; rfl)
    have q2 := hid (show spanHi x = x.off + (x.cols - 1) * x.ld + x.rows - 1 by unfold spanHi; rw [hf]; rfl)
    have hg := hp.1
    have hr : (x.rows == 0) = false := by rw [beq_eq_false_iff_ne]; omega
    have hc : (x.cols == 0) = false := by rw [beq_eq_false_iff_ne]; omega
    have hwf := Hw.out
    obtain ⟨i1, i2, i3, i4⟩ := hwf
    unfold I64 at i1 i2 i3 i4
    have r1 : IntKind.i64.wrap (x.cols - 1) = x.cols - 1 := IntWalk.i64_in _ (by omega)
    have r2 : IntKind.i64.wrap ((x.cols - 1) * x.ld) = (x.cols - 1) * x.ld := IntWalk.i64_in _ (by omega)
    have r3 : IntKind.i64.wrap (x.off + (x.cols - 1) * x.ld) = x.off + (x.cols - 1) * x.ld := IntWalk.i64_in _ (by omega)
    have r4 : IntKind.i64.wrap (x.off + (x.cols - 1) * x.ld + x.rows) = x.off + (x.cols - 1) * x.ld + x.rows := IntWalk.i64_in _ (by omega)
    have r5 : IntKind.i64.wrap (x.off + (x.cols - 1) * x.ld + x.rows - 1) = x.off + (x.cols - 1) * x.ld + x.rows - 1 := IntWalk.i64_in _ (by omega)
    clear hf
    go_enter Try.func194, Try.ntmps194
    refine seq_stop ?_
    go_wp2
    refine stop_go (fun W hW => ?_)
    have s1 : w.heap.size < W.heap.size := by rw [hW]; simp only [World.size_alloc]; omega
    have b1 : ∀ i, W.cell? ⟨w.heap.size, i, none⟩ = (#[D, .int .i64 x.off, .int .i64 x.rows, .int .i64 x.cols, .int .i64 x.ld] : Array Value)[i]? := by intro i; rw [hW]; go_simp
    have g0 : Grew w W := by rw [hW]; exact (Grew.refl _).alloc _
    clear hW
    have hDW := hD.grew g0
    go_wp2_with (first | (go_at_call 130; ((with_reducible refine (good_any x _ _ ?_ Hw.out).mono ?_); (focus (first | (with_reducible assumption) | (with_reducible refine FS.ext ?_ _ _; with_reducible assumption) | (with_reducible refine IS.ext ?_ _ _; with_reducible assumption) | (refine hDu _ ?_; with_reducible assumption) | (refine hOu _ ?_; with_reducible assumption) | (refine hDa _ ?_; with_reducible assumption) | (refine hDb _ ?_; with_reducible assumption) | (refine hDc _ ?_; with_reducible assumption) | (refine hDd _ ?_; with_reducible assumption) | (refine FW.fs ?_ (by omega) _; with_reducible assumption) | (refine WS.fs ?_; with_reducible assumption) | (refine FW.fs ?_ (by omega) _; assumption) | omega | assumption)); rintro e w1 ⟨rfl, o1, n1, rfl⟩)))
    refine wp_region_R (Grew W) [] [(0,0), (0,1), (0,2), (0,3), (0,4), (0,5), (0,6), (0,7), (0,8), (0,9), (0,10), (0,11), (0,12), (0,13), (0,14), (0,15), (0,16), (0,17)] (by kernel_rfl) (by kernel_rfl) (fun _ _ _ _ h _ => h) (by first | exact ⟨_, _, ext_drew⟩ | exact ⟨_, _, drew_ext0⟩ | (show Grew _ _; repeat (first | (with_reducible exact Grew.refl _) | (with_reducible assumption) | (with_reducible exact Grew.same_o) | (with_reducible exact Grew.app_o) | (with_reducible refine Grew.ext ?_ _ _) | (with_reducible refine Grew.alloc ?_ _) | ((with_reducible refine Grew.setCell ?_ ?_ _); rotate_left; (focus (dsimp only; first | omega | (simp only [size_ext, World.size_alloc, Array.size_append]; omega)))) | (with_reducible refine Grew.drewN ?_ _) | (with_reducible refine Grew.drew ?_)))) ?_
    go_wp2_with (first | ((with_reducible refine wpR_id ?_); first | (refine wpR_take (v := ?_) rfl rfl ?_ ?_; rotate_left; (focus (rintro w' ⟨o', n', rfl⟩; go_simp; try with_reducible rfl)); simp only [Act.put, List.setIfInBounds_toArray, List.set_cons_zero, List.set_cons_succ]) | (refine wpR_pure (v := ?_) rfl rfl ?_ ?_; rotate_left; (focus (intro w'; go_simp; try with_reducible rfl)); simp only [Act.put, List.setIfInBounds_toArray, List.set_cons_zero, List.set_cons_succ]) | (refine wpR_takeG (v := ?_) rfl rfl rfl rfl rfl ?_ ?_; rotate_left; (focus (rintro w' ⟨o', n', rfl⟩; go_simp; try with_reducible rfl)); simp only [Act.put, List.setIfInBounds_toArray, List.set_cons_zero, List.set_cons_succ]) | (refine wpR_skip rfl rfl rfl rfl rfl rfl ?_; simp only [Act.put, List.setIfInBounds_toArray, List.set_cons_zero, List.set_cons_succ]) | (refine wpR_skipU rfl rfl rfl rfl rfl ?_; simp only [Act.put, List.setIfInBounds_toArray, List.set_cons_zero, List.set_cons_succ]) | (refine wpR_do rfl rfl (fun K hK => ?_)) | (refine wpR_doG rfl rfl rfl rfl rfl (fun K hK => ?_)) | (refine wpR_last rfl rfl (fun K hK => ?_)) | (refine wpR_nil ?_)) | ((with_reducible refine wpR_go ?_ ?_); (focus exact ⟨_, _, rfl⟩)) | ((with_reducible refine upon_id ?_); refine upon_fop rfl (by assumption) (by assumption) ?_; intro rr nn hr))
    refine bodyPost_ret (v := .tuple #[.int .i64 x.off, .int .i64 (x.off + (x.cols - 1) * x.ld + x.rows - 1), .bool true]) (by simp [results, Try.results194, go_sem, *]) rfl ?_
    exact ⟨ret_tuple3 q1.out.symm q2.out.symm rfl, by (show Grew _ _; repeat (first | (with_reducible exact Grew.refl _) | (with_reducible assumption) | (with_reducible exact Grew.same_o) | (with_reducible exact Grew.app_o) | (with_reducible refine Grew.ext ?_ _ _) | (with_reducible refine Grew.alloc ?_ _) | ((with_reducible refine Grew.setCell ?_ ?_ _); rotate_left; (focus (dsimp only; first | omega | (simp only [size_ext, World.size_alloc, Array.size_append]; omega)))) | (with_reducible refine Grew.drewN ?_ _) | (with_reducible refine Grew.drew ?_)))⟩
def meetM (x y : MatM) (one : Bool) : Bool := MatM.full x && MatM.full y && one && decide (spanLo x ≤ spanHi y) && decide (spanLo y ≤ spanHi x)
set_option maxRecDepth 100000 in
set_option maxHeartbeats 1000000 in
/-- view.Meet. -/
theorem meetM_any (x y : MatM) (a b ca cb : Nat) (w : World) (hA : FS w (.slice (some ⟨a, 0, none⟩) x.ws.length ca) x.ws) (hB : FS w (.slice (some ⟨b, 0, none⟩) y.ws.length cb) y.ws) (hPa : Plain w a) (hPb : Plain w b) (hwx : x.wf) (hwy : y.wf) (hlx : x.ws.length ≤ 1000000) (hly : y.ws.length ≤ 1000000) :
   Calls Try.prog 136 #[.agg #[.slice (some ⟨a, 0, none⟩) x.ws.length ca, .int .i64 x.off, .int .i64 x.rows, .int .i64 x.cols, .int .i64 x.ld], .agg #[.slice (some ⟨b, 0, none⟩) y.ws.length cb, .int .i64 y.off, .int .i64 y.rows, .int .i64 y.cols, .int .i64 y.ld]] w
     (fun e w' => e = .returned (.bool (meetM x y (decide (a = b)))) ∧ ∃ o n, w' = ext w o n) := by
  have Hwx := hid hwx
  have Hwy := hid hwy
  clear hwx hwy
  have hne : ∀ W', Grew w W' → a ≠ b → (binOp .eql 142 (.pointer (some ⟨a, 0, none⟩)) (.pointer (some ⟨b, 0, none⟩))).run Try.prog W' = .ok (.bool false) W' := fun W' g h => eql_other (hPa.grew g) (hPb.grew g) h
  obtain ⟨l1, hl1⟩ : ∃ z, Hid (z = spanLo x) := ⟨_, hid rfl⟩
  obtain ⟨h1, hh1⟩ : ∃ z, Hid (z = spanHi x) := ⟨_, hid rfl⟩
  obtain ⟨l2, hl2⟩ : ∃ z, Hid (z = spanLo y) := ⟨_, hid rfl⟩
  obtain ⟨h2, hh2⟩ : ∃ z, Hid (z = spanHi y) := ⟨_, hid rfl⟩
  have hM : ∀ one, meetM x y one = (MatM.full x && MatM.full y && one && decide (l1 ≤ h2) && decide (l2 ≤ h1)) := fun one => by unfold meetM; rw [hl1.out, hh1.out, hl2.out, hh2.out]
  have sx : ∀ w', FS w' (.slice (some ⟨a, 0, none⟩) x.ws.length ca) x.ws → Calls Try.prog 194 #[.agg #[.slice (some ⟨a, 0, none⟩) x.ws.length ca, .int .i64 x.off, .int .i64 x.rows, .int .i64 x.cols, .int .i64 x.ld]] w' (fun e w2 => e = .returned (.tuple #[.int .i64 l1, .int .i64 h1, .bool (MatM.full x)]) ∧ ∃ o n, w2 = ext w' o n) := fun w' h => by
    rw [hl1.out, hh1.out]; exact span_any x _ w' h Hwx.out hlx
  have sy : ∀ w', FS w' (.slice (some ⟨b, 0, none⟩) y.ws.length cb) y.ws → Calls Try.prog 194 #[.agg #[.slice (some ⟨b, 0, none⟩) y.ws.length cb, .int .i64 y.off, .int .i64 y.rows, .int .i64 y.cols, .int .i64 y.ld]] w' (fun e w2 => e = .returned (.tuple #[.int .i64 l2, .int .i64 h2, .bool (MatM.full y)]) ∧ ∃ o n, w2 = ext w' o n) := fun w' h => by
    rw [hl2.out, hh2.out]; exact span_any y _ w' h Hwy.out hly
  have px : MatM.full x = true → 0 < x.ws.length := fun h => by have := MatM.full_place h; omega
  have py : MatM.full y = true → 0 < y.ws.length := fun h => by have := MatM.full_place h; omega
  cases fx : MatM.full x
  · have q := hid (show meetM x y (decide (a = b)) = false by rw [hM, fx]; rfl)
    clear hM px py hne
    go_enter Try.func136, Try.ntmps136
    refine seq_stop ?_
    go_wp2
    refine stop_go (fun W hW => ?_)
    have s1 : w.heap.size < W.heap.size := by rw [hW]; simp only [World.size_alloc]; omega
    have b1 : ∀ i, W.cell? ⟨w.heap.size, i, none⟩ = (#[.slice (some ⟨a, 0, none⟩) x.ws.length ca, .int .i64 x.off, .int .i64 x.rows, .int .i64 x.cols, .int .i64 x.ld] : Array Value)[i]? := by intro i; rw [hW]; go_simp
    have s2 : w.heap.size + 1 < W.heap.size := by rw [hW]; simp only [World.size_alloc]; omega
    have b2 : ∀ i, W.cell? ⟨w.heap.size + 1, i, none⟩ = (#[.slice (some ⟨b, 0, none⟩) y.ws.length cb, .int .i64 y.off, .int .i64 y.rows, .int .i64 y.cols, .int .i64 y.ld] : Array Value)[i]? := by intro i; rw [hW]; go_simp
    have g0 : Grew w W := by rw [hW]; exact ((Grew.refl _).alloc _).alloc _
    clear hW
    have hAW := hA.grew g0
    have hBW := hB.grew g0
    go_wp2_with (first | (go_at_call 194; ((with_reducible refine (sx _ ?_).mono ?_); (focus (first | (with_reducible assumption) | (with_reducible refine FS.ext ?_ _ _; with_reducible assumption) | (with_reducible refine IS.ext ?_ _ _; with_reducible assumption) | (refine hDu _ ?_; with_reducible assumption) | (refine hOu _ ?_; with_reducible assumption) | (refine hDa _ ?_; with_reducible assumption) | (refine hDb _ ?_; with_reducible assumption) | (refine hDc _ ?_; with_reducible assumption) | (refine hDd _ ?_; with_reducible assumption) | (refine FW.fs ?_ (by omega) _; with_reducible assumption) | (refine WS.fs ?_; with_reducible assumption) | (refine FW.fs ?_ (by omega) _; assumption) | omega | assumption)); rintro e w1 ⟨rfl, o1, n1, rfl⟩)) | (go_at_call 194; ((with_reducible refine (sy _ ?_).mono ?_); (focus (first | (with_reducible assumption) | (with_reducible refine FS.ext ?_ _ _; with_reducible assumption) | (with_reducible refine IS.ext ?_ _ _; with_reducible assumption) | (refine hDu _ ?_; with_reducible assumption) | (refine hOu _ ?_; with_reducible assumption) | (refine hDa _ ?_; with_reducible assumption) | (refine hDb _ ?_; with_reducible assumption) | (refine hDc _ ?_; with_reducible assumption) | (refine hDd _ ?_; with_reducible assumption) | (refine FW.fs ?_ (by omega) _; with_reducible assumption) | (refine WS.fs ?_; with_reducible assumption) | (refine FW.fs ?_ (by omega) _; assumption) | omega | assumption)); rintro e w1 ⟨rfl, o2, n2, rfl⟩)))
    skip
    refine wp_region_R (Grew W) [] [(0,0), (0,1), (0,2), (0,3), (0,4), (0,5), (0,6), (0,7), (0,8), (0,9), (0,10), (0,11), (0,12), (0,13), (0,14), (0,15), (0,16), (0,17), (0,18), (0,19), (0,20), (0,21), (0,22), (0,23)] (by kernel_rfl) (by kernel_rfl) (fun _ _ _ _ h _ => h) (by first | exact ⟨_, _, ext_drew⟩ | exact ⟨_, _, drew_ext0⟩ | (show Grew _ _; repeat (first | (with_reducible exact Grew.refl _) | (with_reducible assumption) | (with_reducible exact Grew.same_o) | (with_reducible exact Grew.app_o) | (with_reducible refine Grew.ext ?_ _ _) | (with_reducible refine Grew.alloc ?_ _) | ((with_reducible refine Grew.setCell ?_ ?_ _); rotate_left; (focus (dsimp only; first | omega | (simp only [size_ext, World.size_alloc, Array.size_append]; omega)))) | (with_reducible refine Grew.drewN ?_ _) | (with_reducible refine Grew.drew ?_)))) ?_
    go_wp2_with (first | ((with_reducible refine wpR_id ?_); first | (refine wpR_take (v := ?_) rfl rfl ?_ ?_; rotate_left; (focus (rintro w' ⟨o', n', rfl⟩; go_simp; try with_reducible rfl)); simp only [Act.put, List.setIfInBounds_toArray, List.set_cons_zero, List.set_cons_succ]) | (refine wpR_pure (v := ?_) rfl rfl ?_ ?_; rotate_left; (focus (intro w'; go_simp; try with_reducible rfl)); simp only [Act.put, List.setIfInBounds_toArray, List.set_cons_zero, List.set_cons_succ]) | (refine wpR_takeG (v := ?_) rfl rfl rfl rfl rfl ?_ ?_; rotate_left; (focus (rintro w' ⟨o', n', rfl⟩; go_simp; try with_reducible rfl)); simp only [Act.put, List.setIfInBounds_toArray, List.set_cons_zero, List.set_cons_succ]) | (refine wpR_skip rfl rfl rfl rfl rfl rfl ?_; simp only [Act.put, List.setIfInBounds_toArray, List.set_cons_zero, List.set_cons_succ]) | (refine wpR_skipU rfl rfl rfl rfl rfl ?_; simp only [Act.put, List.setIfInBounds_toArray, List.set_cons_zero, List.set_cons_succ]) | (refine wpR_do rfl rfl (fun K hK => ?_)) | (refine wpR_doG rfl rfl rfl rfl rfl (fun K hK => ?_)) | (refine wpR_last rfl rfl (fun K hK => ?_)) | (refine wpR_nil ?_)) | ((with_reducible refine wpR_go ?_ ?_); (focus exact ⟨_, _, rfl⟩)) | ((with_reducible refine upon_id ?_); refine upon_fop rfl (by assumption) (by assumption) ?_; intro rr nn hr))
    go_ret
    exact ⟨ret_bool q.out.symm, by (show Grew _ _; repeat (first | (with_reducible exact Grew.refl _) | (with_reducible assumption) | (with_reducible exact Grew.same_o) | (with_reducible exact Grew.app_o) | (with_reducible refine Grew.ext ?_ _ _) | (with_reducible refine Grew.alloc ?_ _) | ((with_reducible refine Grew.setCell ?_ ?_ _); rotate_left; (focus (dsimp only; first | omega | (simp only [size_ext, World.size_alloc, Array.size_append]; omega)))) | (with_reducible refine Grew.drewN ?_ _) | (with_reducible refine Grew.drew ?_)))⟩
  · cases fy : MatM.full y
    · have q := hid (show meetM x y (decide (a = b)) = false by rw [hM, fx, fy]; rfl)
      clear hM px py hne
      go_enter Try.func136, Try.ntmps136
      refine seq_stop ?_
      go_wp2
      refine stop_go (fun W hW => ?_)
      have s1 : w.heap.size < W.heap.size := by rw [hW]; simp only [World.size_alloc]; omega
      have b1 : ∀ i, W.cell? ⟨w.heap.size, i, none⟩ = (#[.slice (some ⟨a, 0, none⟩) x.ws.length ca, .int .i64 x.off, .int .i64 x.rows, .int .i64 x.cols, .int .i64 x.ld] : Array Value)[i]? := by intro i; rw [hW]; go_simp
      have s2 : w.heap.size + 1 < W.heap.size := by rw [hW]; simp only [World.size_alloc]; omega
      have b2 : ∀ i, W.cell? ⟨w.heap.size + 1, i, none⟩ = (#[.slice (some ⟨b, 0, none⟩) y.ws.length cb, .int .i64 y.off, .int .i64 y.rows, .int .i64 y.cols, .int .i64 y.ld] : Array Value)[i]? := by intro i; rw [hW]; go_simp
      have g0 : Grew w W := by rw [hW]; exact ((Grew.refl _).alloc _).alloc _
      clear hW
      have hAW := hA.grew g0
      have hBW := hB.grew g0
      go_wp2_with (first | (go_at_call 194; ((with_reducible refine (sx _ ?_).mono ?_); (focus (first | (with_reducible assumption) | (with_reducible refine FS.ext ?_ _ _; with_reducible assumption) | (with_reducible refine IS.ext ?_ _ _; with_reducible assumption) | (refine hDu _ ?_; with_reducible assumption) | (refine hOu _ ?_; with_reducible assumption) | (refine hDa _ ?_; with_reducible assumption) | (refine hDb _ ?_; with_reducible assumption) | (refine hDc _ ?_; with_reducible assumption) | (refine hDd _ ?_; with_reducible assumption) | (refine FW.fs ?_ (by omega) _; with_reducible assumption) | (refine WS.fs ?_; with_reducible assumption) | (refine FW.fs ?_ (by omega) _; assumption) | omega | assumption)); rintro e w1 ⟨rfl, o1, n1, rfl⟩)) | (go_at_call 194; ((with_reducible refine (sy _ ?_).mono ?_); (focus (first | (with_reducible assumption) | (with_reducible refine FS.ext ?_ _ _; with_reducible assumption) | (with_reducible refine IS.ext ?_ _ _; with_reducible assumption) | (refine hDu _ ?_; with_reducible assumption) | (refine hOu _ ?_; with_reducible assumption) | (refine hDa _ ?_; with_reducible assumption) | (refine hDb _ ?_; with_reducible assumption) | (refine hDc _ ?_; with_reducible assumption) | (refine hDd _ ?_; with_reducible assumption) | (refine FW.fs ?_ (by omega) _; with_reducible assumption) | (refine WS.fs ?_; with_reducible assumption) | (refine FW.fs ?_ (by omega) _; assumption) | omega | assumption)); rintro e w1 ⟨rfl, o2, n2, rfl⟩)))
      skip
      refine wp_region_R (Grew W) [] [(0,0), (0,1), (0,2), (0,3), (0,4), (0,5), (0,6), (0,7), (0,8), (0,9), (0,10), (0,11), (0,12), (0,13), (0,14), (0,15), (0,16), (0,17), (0,18), (0,19), (0,20), (0,21), (0,22), (0,23)] (by kernel_rfl) (by kernel_rfl) (fun _ _ _ _ h _ => h) (by first | exact ⟨_, _, ext_drew⟩ | exact ⟨_, _, drew_ext0⟩ | (show Grew _ _; repeat (first | (with_reducible exact Grew.refl _) | (with_reducible assumption) | (with_reducible exact Grew.same_o) | (with_reducible exact Grew.app_o) | (with_reducible refine Grew.ext ?_ _ _) | (with_reducible refine Grew.alloc ?_ _) | ((with_reducible refine Grew.setCell ?_ ?_ _); rotate_left; (focus (dsimp only; first | omega | (simp only [size_ext, World.size_alloc, Array.size_append]; omega)))) | (with_reducible refine Grew.drewN ?_ _) | (with_reducible refine Grew.drew ?_)))) ?_
      go_wp2_with (first | ((with_reducible refine wpR_id ?_); first | (refine wpR_take (v := ?_) rfl rfl ?_ ?_; rotate_left; (focus (rintro w' ⟨o', n', rfl⟩; go_simp; try with_reducible rfl)); simp only [Act.put, List.setIfInBounds_toArray, List.set_cons_zero, List.set_cons_succ]) | (refine wpR_pure (v := ?_) rfl rfl ?_ ?_; rotate_left; (focus (intro w'; go_simp; try with_reducible rfl)); simp only [Act.put, List.setIfInBounds_toArray, List.set_cons_zero, List.set_cons_succ]) | (refine wpR_takeG (v := ?_) rfl rfl rfl rfl rfl ?_ ?_; rotate_left; (focus (rintro w' ⟨o', n', rfl⟩; go_simp; try with_reducible rfl)); simp only [Act.put, List.setIfInBounds_toArray, List.set_cons_zero, List.set_cons_succ]) | (refine wpR_skip rfl rfl rfl rfl rfl rfl ?_; simp only [Act.put, List.setIfInBounds_toArray, List.set_cons_zero, List.set_cons_succ]) | (refine wpR_skipU rfl rfl rfl rfl rfl ?_; simp only [Act.put, List.setIfInBounds_toArray, List.set_cons_zero, List.set_cons_succ]) | (refine wpR_do rfl rfl (fun K hK => ?_)) | (refine wpR_doG rfl rfl rfl rfl rfl (fun K hK => ?_)) | (refine wpR_last rfl rfl (fun K hK => ?_)) | (refine wpR_nil ?_)) | ((with_reducible refine wpR_go ?_ ?_); (focus exact ⟨_, _, rfl⟩)) | ((with_reducible refine upon_id ?_); refine upon_fop rfl (by assumption) (by assumption) ?_; intro rr nn hr))
      go_ret
      exact ⟨ret_bool q.out.symm, by (show Grew _ _; repeat (first | (with_reducible exact Grew.refl _) | (with_reducible assumption) | (with_reducible exact Grew.same_o) | (with_reducible exact Grew.app_o) | (with_reducible refine Grew.ext ?_ _ _) | (with_reducible refine Grew.alloc ?_ _) | ((with_reducible refine Grew.setCell ?_ ?_ _); rotate_left; (focus (dsimp only; first | omega | (simp only [size_ext, World.size_alloc, Array.size_append]; omega)))) | (with_reducible refine Grew.drewN ?_ _) | (with_reducible refine Grew.drew ?_)))⟩
    · have lx := px fx
      have ly := py fy
      by_cases hab : a = b
      · have hpe : ∀ W', (binOp .eql 142 (.pointer (some ⟨a, 0, none⟩)) (.pointer (some ⟨b, 0, none⟩))).run Try.prog W' = .ok (.bool true) W' := fun W' => by subst hab; exact eql_same W' _
        by_cases c1 : l1 ≤ h2
        · by_cases c2 : l2 ≤ h1
          · have q := hid (show meetM x y (decide (a = b)) = true by rw [hM, fx, fy]; simp [c1, c2, hab])
            have d1 : decide (l1 ≤ h2) = true := by simpa using c1
            have d2 : decide (l2 ≤ h1) = true := by simpa using c2
            clear hM px py hne hab
            go_enter Try.func136, Try.ntmps136
            refine seq_stop ?_
            go_wp2
            refine stop_go (fun W hW => ?_)
            have s1 : w.heap.size < W.heap.size := by rw [hW]; simp only [World.size_alloc]; omega
            have b1 : ∀ i, W.cell? ⟨w.heap.size, i, none⟩ = (#[.slice (some ⟨a, 0, none⟩) x.ws.length ca, .int .i64 x.off, .int .i64 x.rows, .int .i64 x.cols, .int .i64 x.ld] : Array Value)[i]? := by intro i; rw [hW]; go_simp
            have s2 : w.heap.size + 1 < W.heap.size := by rw [hW]; simp only [World.size_alloc]; omega
            have b2 : ∀ i, W.cell? ⟨w.heap.size + 1, i, none⟩ = (#[.slice (some ⟨b, 0, none⟩) y.ws.length cb, .int .i64 y.off, .int .i64 y.rows, .int .i64 y.cols, .int .i64 y.ld] : Array Value)[i]? := by intro i; rw [hW]; go_simp
            have g0 : Grew w W := by rw [hW]; exact ((Grew.refl _).alloc _).alloc _
            clear hW
            have hAW := hA.grew g0
            have hBW := hB.grew g0
            go_wp2_with (first | (go_at_call 194; ((with_reducible refine (sx _ ?_).mono ?_); (focus (first | (with_reducible assumption) | (with_reducible refine FS.ext ?_ _ _; with_reducible assumption) | (with_reducible refine IS.ext ?_ _ _; with_reducible assumption) | (refine hDu _ ?_; with_reducible assumption) | (refine hOu _ ?_; with_reducible assumption) | (refine hDa _ ?_; with_reducible assumption) | (refine hDb _ ?_; with_reducible assumption) | (refine hDc _ ?_; with_reducible assumption) | (refine hDd _ ?_; with_reducible assumption) | (refine FW.fs ?_ (by omega) _; with_reducible assumption) | (refine WS.fs ?_; with_reducible assumption) | (refine FW.fs ?_ (by omega) _; assumption) | omega | assumption)); rintro e w1 ⟨rfl, o1, n1, rfl⟩)) | (go_at_call 194; ((with_reducible refine (sy _ ?_).mono ?_); (focus (first | (with_reducible assumption) | (with_reducible refine FS.ext ?_ _ _; with_reducible assumption) | (with_reducible refine IS.ext ?_ _ _; with_reducible assumption) | (refine hDu _ ?_; with_reducible assumption) | (refine hOu _ ?_; with_reducible assumption) | (refine hDa _ ?_; with_reducible assumption) | (refine hDb _ ?_; with_reducible assumption) | (refine hDc _ ?_; with_reducible assumption) | (refine hDd _ ?_; with_reducible assumption) | (refine FW.fs ?_ (by omega) _; with_reducible assumption) | (refine WS.fs ?_; with_reducible assumption) | (refine FW.fs ?_ (by omega) _; assumption) | omega | assumption)); rintro e w1 ⟨rfl, o2, n2, rfl⟩)))
            skip
            refine wp_region_R (Grew W) [] [(0,0), (0,1), (0,2), (0,3), (0,4), (0,5), (0,6), (0,7), (0,8), (0,9), (0,10), (0,11), (0,12), (0,13), (0,14), (0,15), (0,16), (0,17), (0,18), (0,19), (0,20), (0,21), (0,22), (0,23)] (by kernel_rfl) (by kernel_rfl) (fun _ _ _ _ h _ => h) (by first | exact ⟨_, _, ext_drew⟩ | exact ⟨_, _, drew_ext0⟩ | (show Grew _ _; repeat (first | (with_reducible exact Grew.refl _) | (with_reducible assumption) | (with_reducible exact Grew.same_o) | (with_reducible exact Grew.app_o) | (with_reducible refine Grew.ext ?_ _ _) | (with_reducible refine Grew.alloc ?_ _) | ((with_reducible refine Grew.setCell ?_ ?_ _); rotate_left; (focus (dsimp only; first | omega | (simp only [size_ext, World.size_alloc, Array.size_append]; omega)))) | (with_reducible refine Grew.drewN ?_ _) | (with_reducible refine Grew.drew ?_)))) ?_
            go_wp2_with (first | ((with_reducible refine wpR_id ?_); first | (refine wpR_take (v := ?_) rfl rfl ?_ ?_; rotate_left; (focus (rintro w' ⟨o', n', rfl⟩; go_simp; try with_reducible rfl)); simp only [Act.put, List.setIfInBounds_toArray, List.set_cons_zero, List.set_cons_succ]) | (refine wpR_pure (v := ?_) rfl rfl ?_ ?_; rotate_left; (focus (intro w'; go_simp; try with_reducible rfl)); simp only [Act.put, List.setIfInBounds_toArray, List.set_cons_zero, List.set_cons_succ]) | (refine wpR_takeG (v := ?_) rfl rfl rfl rfl rfl ?_ ?_; rotate_left; (focus (rintro w' ⟨o', n', rfl⟩; go_simp; try with_reducible rfl)); simp only [Act.put, List.setIfInBounds_toArray, List.set_cons_zero, List.set_cons_succ]) | (refine wpR_skip rfl rfl rfl rfl rfl rfl ?_; simp only [Act.put, List.setIfInBounds_toArray, List.set_cons_zero, List.set_cons_succ]) | (refine wpR_skipU rfl rfl rfl rfl rfl ?_; simp only [Act.put, List.setIfInBounds_toArray, List.set_cons_zero, List.set_cons_succ]) | (refine wpR_do rfl rfl (fun K hK => ?_)) | (refine wpR_doG rfl rfl rfl rfl rfl (fun K hK => ?_)) | (refine wpR_last rfl rfl (fun K hK => ?_)) | (refine wpR_nil ?_)) | ((with_reducible refine wpR_go ?_ ?_); (focus exact ⟨_, _, rfl⟩)) | ((with_reducible refine upon_id ?_); refine upon_fop rfl (by assumption) (by assumption) ?_; intro rr nn hr))
            go_ret
            exact ⟨ret_bool q.out.symm, by (show Grew _ _; repeat (first | (with_reducible exact Grew.refl _) | (with_reducible assumption) | (with_reducible exact Grew.same_o) | (with_reducible exact Grew.app_o) | (with_reducible refine Grew.ext ?_ _ _) | (with_reducible refine Grew.alloc ?_ _) | ((with_reducible refine Grew.setCell ?_ ?_ _); rotate_left; (focus (dsimp only; first | omega | (simp only [size_ext, World.size_alloc, Array.size_append]; omega)))) | (with_reducible refine Grew.drewN ?_ _) | (with_reducible refine Grew.drew ?_)))⟩
          · have q := hid (show meetM x y (decide (a = b)) = false by rw [hM, fx, fy]; simp [c2])
            have d1 : decide (l1 ≤ h2) = true := by simpa using c1
            have d2 : decide (l2 ≤ h1) = false := by simpa using c2
            clear hM px py hne hab
            go_enter Try.func136, Try.ntmps136
            refine seq_stop ?_
            go_wp2
            refine stop_go (fun W hW => ?_)
            have s1 : w.heap.size < W.heap.size := by rw [hW]; simp only [World.size_alloc]; omega
            have b1 : ∀ i, W.cell? ⟨w.heap.size, i, none⟩ = (#[.slice (some ⟨a, 0, none⟩) x.ws.length ca, .int .i64 x.off, .int .i64 x.rows, .int .i64 x.cols, .int .i64 x.ld] : Array Value)[i]? := by intro i; rw [hW]; go_simp
            have s2 : w.heap.size + 1 < W.heap.size := by rw [hW]; simp only [World.size_alloc]; omega
            have b2 : ∀ i, W.cell? ⟨w.heap.size + 1, i, none⟩ = (#[.slice (some ⟨b, 0, none⟩) y.ws.length cb, .int .i64 y.off, .int .i64 y.rows, .int .i64 y.cols, .int .i64 y.ld] : Array Value)[i]? := by intro i; rw [hW]; go_simp
            have g0 : Grew w W := by rw [hW]; exact ((Grew.refl _).alloc _).alloc _
            clear hW
            have hAW := hA.grew g0
            have hBW := hB.grew g0
            go_wp2_with (first | (go_at_call 194; ((with_reducible refine (sx _ ?_).mono ?_); (focus (first | (with_reducible assumption) | (with_reducible refine FS.ext ?_ _ _; with_reducible assumption) | (with_reducible refine IS.ext ?_ _ _; with_reducible assumption) | (refine hDu _ ?_; with_reducible assumption) | (refine hOu _ ?_; with_reducible assumption) | (refine hDa _ ?_; with_reducible assumption) | (refine hDb _ ?_; with_reducible assumption) | (refine hDc _ ?_; with_reducible assumption) | (refine hDd _ ?_; with_reducible assumption) | (refine FW.fs ?_ (by omega) _; with_reducible assumption) | (refine WS.fs ?_; with_reducible assumption) | (refine FW.fs ?_ (by omega) _; assumption) | omega | assumption)); rintro e w1 ⟨rfl, o1, n1, rfl⟩)) | (go_at_call 194; ((with_reducible refine (sy _ ?_).mono ?_); (focus (first | (with_reducible assumption) | (with_reducible refine FS.ext ?_ _ _; with_reducible assumption) | (with_reducible refine IS.ext ?_ _ _; with_reducible assumption) | (refine hDu _ ?_; with_reducible assumption) | (refine hOu _ ?_; with_reducible assumption) | (refine hDa _ ?_; with_reducible assumption) | (refine hDb _ ?_; with_reducible assumption) | (refine hDc _ ?_; with_reducible assumption) | (refine hDd _ ?_; with_reducible assumption) | (refine FW.fs ?_ (by omega) _; with_reducible assumption) | (refine WS.fs ?_; with_reducible assumption) | (refine FW.fs ?_ (by omega) _; assumption) | omega | assumption)); rintro e w1 ⟨rfl, o2, n2, rfl⟩)))
            skip
            refine wp_region_R (Grew W) [] [(0,0), (0,1), (0,2), (0,3), (0,4), (0,5), (0,6), (0,7), (0,8), (0,9), (0,10), (0,11), (0,12), (0,13), (0,14), (0,15), (0,16), (0,17), (0,18), (0,19), (0,20), (0,21), (0,22), (0,23)] (by kernel_rfl) (by kernel_rfl) (fun _ _ _ _ h _ => h) (by first | exact ⟨_, _, ext_drew⟩ | exact ⟨_, _, drew_ext0⟩ | (show Grew _ _; repeat (first | (with_reducible exact Grew.refl _) | (with_reducible assumption) | (with_reducible exact Grew.same_o) | (with_reducible exact Grew.app_o) | (with_reducible refine Grew.ext ?_ _ _) | (with_reducible refine Grew.alloc ?_ _) | ((with_reducible refine Grew.setCell ?_ ?_ _); rotate_left; (focus (dsimp only; first | omega | (simp only [size_ext, World.size_alloc, Array.size_append]; omega)))) | (with_reducible refine Grew.drewN ?_ _) | (with_reducible refine Grew.drew ?_)))) ?_
            go_wp2_with (first | ((with_reducible refine wpR_id ?_); first | (refine wpR_take (v := ?_) rfl rfl ?_ ?_; rotate_left; (focus (rintro w' ⟨o', n', rfl⟩; go_simp; try with_reducible rfl)); simp only [Act.put, List.setIfInBounds_toArray, List.set_cons_zero, List.set_cons_succ]) | (refine wpR_pure (v := ?_) rfl rfl ?_ ?_; rotate_left; (focus (intro w'; go_simp; try with_reducible rfl)); simp only [Act.put, List.setIfInBounds_toArray, List.set_cons_zero, List.set_cons_succ]) | (refine wpR_takeG (v := ?_) rfl rfl rfl rfl rfl ?_ ?_; rotate_left; (focus (rintro w' ⟨o', n', rfl⟩; go_simp; try with_reducible rfl)); simp only [Act.put, List.setIfInBounds_toArray, List.set_cons_zero, List.set_cons_succ]) | (refine wpR_skip rfl rfl rfl rfl rfl rfl ?_; simp only [Act.put, List.setIfInBounds_toArray, List.set_cons_zero, List.set_cons_succ]) | (refine wpR_skipU rfl rfl rfl rfl rfl ?_; simp only [Act.put, List.setIfInBounds_toArray, List.set_cons_zero, List.set_cons_succ]) | (refine wpR_do rfl rfl (fun K hK => ?_)) | (refine wpR_doG rfl rfl rfl rfl rfl (fun K hK => ?_)) | (refine wpR_last rfl rfl (fun K hK => ?_)) | (refine wpR_nil ?_)) | ((with_reducible refine wpR_go ?_ ?_); (focus exact ⟨_, _, rfl⟩)) | ((with_reducible refine upon_id ?_); refine upon_fop rfl (by assumption) (by assumption) ?_; intro rr nn hr))
            go_ret
            exact ⟨ret_bool q.out.symm, by (show Grew _ _; repeat (first | (with_reducible exact Grew.refl _) | (with_reducible assumption) | (with_reducible exact Grew.same_o) | (with_reducible exact Grew.app_o) | (with_reducible refine Grew.ext ?_ _ _) | (with_reducible refine Grew.alloc ?_ _) | ((with_reducible refine Grew.setCell ?_ ?_ _); rotate_left; (focus (dsimp only; first | omega | (simp only [size_ext, World.size_alloc, Array.size_append]; omega)))) | (with_reducible refine Grew.drewN ?_ _) | (with_reducible refine Grew.drew ?_)))⟩
        · have q := hid (show meetM x y (decide (a = b)) = false by rw [hM, fx, fy]; simp [c1])
          have d1 : decide (l1 ≤ h2) = false := by simpa using c1
          clear hM px py hne hab
          go_enter Try.func136, Try.ntmps136
          refine seq_stop ?_
          go_wp2
          refine stop_go (fun W hW => ?_)
          have s1 : w.heap.size < W.heap.size := by rw [hW]; simp only [World.size_alloc]; omega
          have b1 : ∀ i, W.cell? ⟨w.heap.size, i, none⟩ = (#[.slice (some ⟨a, 0, none⟩) x.ws.length ca, .int .i64 x.off, .int .i64 x.rows, .int .i64 x.cols, .int .i64 x.ld] : Array Value)[i]? := by intro i; rw [hW]; go_simp
          have s2 : w.heap.size + 1 < W.heap.size := by rw [hW]; simp only [World.size_alloc]; omega
          have b2 : ∀ i, W.cell? ⟨w.heap.size + 1, i, none⟩ = (#[.slice (some ⟨b, 0, none⟩) y.ws.length cb, .int .i64 y.off, .int .i64 y.rows, .int .i64 y.cols, .int .i64 y.ld] : Array Value)[i]? := by intro i; rw [hW]; go_simp
          have g0 : Grew w W := by rw [hW]; exact ((Grew.refl _).alloc _).alloc _
          clear hW
          have hAW := hA.grew g0
          have hBW := hB.grew g0
          go_wp2_with (first | (go_at_call 194; ((with_reducible refine (sx _ ?_).mono ?_); (focus (first | (with_reducible assumption) | (with_reducible refine FS.ext ?_ _ _; with_reducible assumption) | (with_reducible refine IS.ext ?_ _ _; with_reducible assumption) | (refine hDu _ ?_; with_reducible assumption) | (refine hOu _ ?_; with_reducible assumption) | (refine hDa _ ?_; with_reducible assumption) | (refine hDb _ ?_; with_reducible assumption) | (refine hDc _ ?_; with_reducible assumption) | (refine hDd _ ?_; with_reducible assumption) | (refine FW.fs ?_ (by omega) _; with_reducible assumption) | (refine WS.fs ?_; with_reducible assumption) | (refine FW.fs ?_ (by omega) _; assumption) | omega | assumption)); rintro e w1 ⟨rfl, o1, n1, rfl⟩)) | (go_at_call 194; ((with_reducible refine (sy _ ?_).mono ?_); (focus (first | (with_reducible assumption) | (with_reducible refine FS.ext ?_ _ _; with_reducible assumption) | (with_reducible refine IS.ext ?_ _ _; with_reducible assumption) | (refine hDu _ ?_; with_reducible assumption) | (refine hOu _ ?_; with_reducible assumption) | (refine hDa _ ?_; with_reducible assumption) | (refine hDb _ ?_; with_reducible assumption) | (refine hDc _ ?_; with_reducible assumption) | (refine hDd _ ?_; with_reducible assumption) | (refine FW.fs ?_ (by omega) _; with_reducible assumption) | (refine WS.fs ?_; with_reducible assumption) | (refine FW.fs ?_ (by omega) _; assumption) | omega | assumption)); rintro e w1 ⟨rfl, o2, n2, rfl⟩)))
          skip
          refine wp_region_R (Grew W) [] [(0,0), (0,1), (0,2), (0,3), (0,4), (0,5), (0,6), (0,7), (0,8), (0,9), (0,10), (0,11), (0,12), (0,13), (0,14), (0,15), (0,16), (0,17), (0,18), (0,19), (0,20), (0,21), (0,22), (0,23)] (by kernel_rfl) (by kernel_rfl) (fun _ _ _ _ h _ => h) (by first | exact ⟨_, _, ext_drew⟩ | exact ⟨_, _, drew_ext0⟩ | (show Grew _ _; repeat (first | (with_reducible exact Grew.refl _) | (with_reducible assumption) | (with_reducible exact Grew.same_o) | (with_reducible exact Grew.app_o) | (with_reducible refine Grew.ext ?_ _ _) | (with_reducible refine Grew.alloc ?_ _) | ((with_reducible refine Grew.setCell ?_ ?_ _); rotate_left; (focus (dsimp only; first | omega | (simp only [size_ext, World.size_alloc, Array.size_append]; omega)))) | (with_reducible refine Grew.drewN ?_ _) | (with_reducible refine Grew.drew ?_)))) ?_
          go_wp2_with (first | ((with_reducible refine wpR_id ?_); first | (refine wpR_take (v := ?_) rfl rfl ?_ ?_; rotate_left; (focus (rintro w' ⟨o', n', rfl⟩; go_simp; try with_reducible rfl)); simp only [Act.put, List.setIfInBounds_toArray, List.set_cons_zero, List.set_cons_succ]) | (refine wpR_pure (v := ?_) rfl rfl ?_ ?_; rotate_left; (focus (intro w'; go_simp; try with_reducible rfl)); simp only [Act.put, List.setIfInBounds_toArray, List.set_cons_zero, List.set_cons_succ]) | (refine wpR_takeG (v := ?_) rfl rfl rfl rfl rfl ?_ ?_; rotate_left; (focus (rintro w' ⟨o', n', rfl⟩; go_simp; try with_reducible rfl)); simp only [Act.put, List.setIfInBounds_toArray, List.set_cons_zero, List.set_cons_succ]) | (refine wpR_skip rfl rfl rfl rfl rfl rfl ?_; simp only [Act.put, List.setIfInBounds_toArray, List.set_cons_zero, List.set_cons_succ]) | (refine wpR_skipU rfl rfl rfl rfl rfl ?_; simp only [Act.put, List.setIfInBounds_toArray, List.set_cons_zero, List.set_cons_succ]) | (refine wpR_do rfl rfl (fun K hK => ?_)) | (refine wpR_doG rfl rfl rfl rfl rfl (fun K hK => ?_)) | (refine wpR_last rfl rfl (fun K hK => ?_)) | (refine wpR_nil ?_)) | ((with_reducible refine wpR_go ?_ ?_); (focus exact ⟨_, _, rfl⟩)) | ((with_reducible refine upon_id ?_); refine upon_fop rfl (by assumption) (by assumption) ?_; intro rr nn hr))
          go_ret
          exact ⟨ret_bool q.out.symm, by (show Grew _ _; repeat (first | (with_reducible exact Grew.refl _) | (with_reducible assumption) | (with_reducible exact Grew.same_o) | (with_reducible exact Grew.app_o) | (with_reducible refine Grew.ext ?_ _ _) | (with_reducible refine Grew.alloc ?_ _) | ((with_reducible refine Grew.setCell ?_ ?_ _); rotate_left; (focus (dsimp only; first | omega | (simp only [size_ext, World.size_alloc, Array.size_append]; omega)))) | (with_reducible refine Grew.drewN ?_ _) | (with_reducible refine Grew.drew ?_)))⟩
      · have q := hid (show meetM x y (decide (a = b)) = false by rw [hM]; simp [hab])
        clear hM px py
        go_enter Try.func136, Try.ntmps136
        refine seq_stop ?_
        go_wp2
        refine stop_go (fun W hW => ?_)
        have s1 : w.heap.size < W.heap.size := by rw [hW]; simp only [World.size_alloc]; omega
        have b1 : ∀ i, W.cell? ⟨w.heap.size, i, none⟩ = (#[.slice (some ⟨a, 0, none⟩) x.ws.length ca, .int .i64 x.off, .int .i64 x.rows, .int .i64 x.cols, .int .i64 x.ld] : Array Value)[i]? := by intro i; rw [hW]; go_simp
        have s2 : w.heap.size + 1 < W.heap.size := by rw [hW]; simp only [World.size_alloc]; omega
        have b2 : ∀ i, W.cell? ⟨w.heap.size + 1, i, none⟩ = (#[.slice (some ⟨b, 0, none⟩) y.ws.length cb, .int .i64 y.off, .int .i64 y.rows, .int .i64 y.cols, .int .i64 y.ld] : Array Value)[i]? := by intro i; rw [hW]; go_simp
        have g0 : Grew w W := by rw [hW]; exact ((Grew.refl _).alloc _).alloc _
        clear hW
        have hAW := hA.grew g0
        have hBW := hB.grew g0
        go_wp2_with (first | (go_at_call 194; ((with_reducible refine (sx _ ?_).mono ?_); (focus (first | (with_reducible assumption) | (with_reducible refine FS.ext ?_ _ _; with_reducible assumption) | (with_reducible refine IS.ext ?_ _ _; with_reducible assumption) | (refine hDu _ ?_; with_reducible assumption) | (refine hOu _ ?_; with_reducible assumption) | (refine hDa _ ?_; with_reducible assumption) | (refine hDb _ ?_; with_reducible assumption) | (refine hDc _ ?_; with_reducible assumption) | (refine hDd _ ?_; with_reducible assumption) | (refine FW.fs ?_ (by omega) _; with_reducible assumption) | (refine WS.fs ?_; with_reducible assumption) | (refine FW.fs ?_ (by omega) _; assumption) | omega | assumption)); rintro e w1 ⟨rfl, o1, n1, rfl⟩)) | (go_at_call 194; ((with_reducible refine (sy _ ?_).mono ?_); (focus (first | (with_reducible assumption) | (with_reducible refine FS.ext ?_ _ _; with_reducible assumption) | (with_reducible refine IS.ext ?_ _ _; with_reducible assumption) | (refine hDu _ ?_; with_reducible assumption) | (refine hOu _ ?_; with_reducible assumption) | (refine hDa _ ?_; with_reducible assumption) | (refine hDb _ ?_; with_reducible assumption) | (refine hDc _ ?_; with_reducible assumption) | (refine hDd _ ?_; with_reducible assumption) | (refine FW.fs ?_ (by omega) _; with_reducible assumption) | (refine WS.fs ?_; with_reducible assumption) | (refine FW.fs ?_ (by omega) _; assumption) | omega | assumption)); rintro e w1 ⟨rfl, o2, n2, rfl⟩)))
        have hnn : ∀ o n, (binOp .eql 142 (.pointer (some ⟨a, 0, none⟩)) (.pointer (some ⟨b, 0, none⟩))).run Try.prog (ext W o n) = .ok (.bool false) (ext W o n) := fun o n => hne _ (g0.ext o n) hab
        refine wp_region_R (Grew W) [] [(0,0), (0,1), (0,2), (0,3), (0,4), (0,5), (0,6), (0,7), (0,8), (0,9), (0,10), (0,11), (0,12), (0,13), (0,14), (0,15), (0,16), (0,17), (0,18), (0,19), (0,20), (0,21), (0,22), (0,23)] (by kernel_rfl) (by kernel_rfl) (fun _ _ _ _ h _ => h) (by first | exact ⟨_, _, ext_drew⟩ | exact ⟨_, _, drew_ext0⟩ | (show Grew _ _; repeat (first | (with_reducible exact Grew.refl _) | (with_reducible assumption) | (with_reducible exact Grew.same_o) | (with_reducible exact Grew.app_o) | (with_reducible refine Grew.ext ?_ _ _) | (with_reducible refine Grew.alloc ?_ _) | ((with_reducible refine Grew.setCell ?_ ?_ _); rotate_left; (focus (dsimp only; first | omega | (simp only [size_ext, World.size_alloc, Array.size_append]; omega)))) | (with_reducible refine Grew.drewN ?_ _) | (with_reducible refine Grew.drew ?_)))) ?_
        go_wp2_with (first | ((with_reducible refine wpR_id ?_); first | (refine wpR_take (v := ?_) rfl rfl ?_ ?_; rotate_left; (focus (rintro w' ⟨o', n', rfl⟩; go_simp; try with_reducible rfl)); simp only [Act.put, List.setIfInBounds_toArray, List.set_cons_zero, List.set_cons_succ]) | (refine wpR_pure (v := ?_) rfl rfl ?_ ?_; rotate_left; (focus (intro w'; go_simp; try with_reducible rfl)); simp only [Act.put, List.setIfInBounds_toArray, List.set_cons_zero, List.set_cons_succ]) | (refine wpR_takeG (v := ?_) rfl rfl rfl rfl rfl ?_ ?_; rotate_left; (focus (rintro w' ⟨o', n', rfl⟩; go_simp; try with_reducible rfl)); simp only [Act.put, List.setIfInBounds_toArray, List.set_cons_zero, List.set_cons_succ]) | (refine wpR_skip rfl rfl rfl rfl rfl rfl ?_; simp only [Act.put, List.setIfInBounds_toArray, List.set_cons_zero, List.set_cons_succ]) | (refine wpR_skipU rfl rfl rfl rfl rfl ?_; simp only [Act.put, List.setIfInBounds_toArray, List.set_cons_zero, List.set_cons_succ]) | (refine wpR_do rfl rfl (fun K hK => ?_)) | (refine wpR_doG rfl rfl rfl rfl rfl (fun K hK => ?_)) | (refine wpR_last rfl rfl (fun K hK => ?_)) | (refine wpR_nil ?_)) | ((with_reducible refine wpR_go ?_ ?_); (focus exact ⟨_, _, rfl⟩)) | ((with_reducible refine upon_id ?_); refine upon_fop rfl (by assumption) (by assumption) ?_; intro rr nn hr))
        go_ret
        exact ⟨ret_bool q.out.symm, by (show Grew _ _; repeat (first | (with_reducible exact Grew.refl _) | (with_reducible assumption) | (with_reducible exact Grew.same_o) | (with_reducible exact Grew.app_o) | (with_reducible refine Grew.ext ?_ _ _) | (with_reducible refine Grew.alloc ?_ _) | ((with_reducible refine Grew.setCell ?_ ?_ _); rotate_left; (focus (dsimp only; first | omega | (simp only [size_ext, World.size_alloc, Array.size_append]; omega)))) | (with_reducible refine Grew.drewN ?_ _) | (with_reducible refine Grew.drew ?_)))⟩
/-- straightedgeref07.Spans. -/
def spansB (a b c d : Int) : Bool := decide (a ≤ b) && decide (c ≤ d) && decide (a ≤ d) && decide (c ≤ b)
theorem spans_any (a b c d : Int) (w : World) : Calls Try.prog 59 #[.int .i64 a, .int .i64 b, .int .i64 c, .int .i64 d] w (fun e w' => e = .returned (.bool (spansB a b c d)) ∧ ∃ o n, w' = ext w o n) := by
  have hW : Grew w w := Grew.refl w
  by_cases c1 : a ≤ b
  · by_cases c2 : c ≤ d
    · by_cases c3 : a ≤ d
      · by_cases c4 : c ≤ b
        · have q := hid (show spansB a b c d = true by unfold spansB; simp [c1, c2, c3, c4])
          go_enter Try.func59, Try.ntmps59
          go_wp2
          go_ret
          exact ⟨ret_bool q.out.symm, ⟨#[], _, ext_zero.symm⟩⟩
        · have q := hid (show spansB a b c d = false by unfold spansB; simp [c4])
          go_enter Try.func59, Try.ntmps59
          go_wp2
          go_ret
          exact ⟨ret_bool q.out.symm, ⟨#[], _, ext_zero.symm⟩⟩
      · have q := hid (show spansB a b c d = false by unfold spansB; simp [c3])
        go_enter Try.func59, Try.ntmps59
        go_wp2
        go_ret
        exact ⟨ret_bool q.out.symm, ⟨#[], _, ext_zero.symm⟩⟩
    · have q := hid (show spansB a b c d = false by unfold spansB; simp [c2])
      go_enter Try.func59, Try.ntmps59
      go_wp2
      go_ret
      exact ⟨ret_bool q.out.symm, ⟨#[], _, ext_zero.symm⟩⟩
  · have q := hid (show spansB a b c d = false by unfold spansB; simp [c1])
    go_enter Try.func59, Try.ntmps59
    go_wp2
    go_ret
    exact ⟨ret_bool q.out.symm, ⟨#[], _, ext_zero.symm⟩⟩
end Go.Proofs.Ytcmggfpcbijcjaa
end
section
/-
  Contracts: straightedgeref07.MatSpan, VecSpan; a vector as a matrix of one row (trsv.row); and: meeting is what the document says.
-/
set_option linter.unusedSimpArgs false
set_option linter.unusedVariables false
open Go Go.RowKit Sedge
namespace Go.Proofs.Ytcmggfpcbijcjaa
def vLo (x : VecM) : Int := if x.n = 0 then 0 else x.off
def vHi (x : VecM) : Int := if x.n = 0 then -1 else x.off + (x.n - 1) * x.inc
def mLo (m : MatM) : Int := if m.rows = 0 ∨ m.cols = 0 then 0 else m.off
def mHi (m : MatM) : Int := if m.rows = 0 ∨ m.cols = 0 then -1 else m.off + (m.cols - 1) * m.ld + m.rows - 1
def rowM (x : VecM) : MatM := ⟨x.ws, x.off, 1, x.n, x.inc⟩
theorem rowM_good {x : VecM} (h : x.right = true) : (rowM x).good = true := by
  have hn := VecM.right_n h
  unfold VecM.right at h
  unfold MatM.good rowM
  simp only [Bool.and_eq_true, Bool.or_eq_true, decide_eq_true_eq] at h ⊢
  refine ⟨by omega, ?_⟩
  rcases h.2 with h2 | h2
  · exact .inl (.inr h2)
  · exact .inr (by simpa [fitsB] using h2)
theorem rowM_wf {x : VecM} (h : x.wf) : (rowM x).wf := ⟨h.1, by unfold I64; simp [rowM], h.2.1, h.2.2⟩
/-- Meeting is what the document says. -/
theorem spans_meet {x : VecM} {m : MatM} (hx : x.right = true) (hm : m.good = true) : spansB (vLo x) (vHi x) (mLo m) (mHi m) = meetM (rowM x) m true := by
  have hn := VecM.right_n hx
  have hmn := m.good_n hm
  have hg := rowM_good hx
  by_cases h0 : x.n = 0
  · have f1 : MatM.full (rowM x) = false := by unfold MatM.full; simp [rowM, h0]
    unfold meetM; rw [f1]
    unfold spansB vLo vHi; simp [h0]
  · have f1 : MatM.full (rowM x) = true := by unfold MatM.full; rw [hg]; simp [rowM, h0]
    by_cases h1 : m.rows = 0 ∨ m.cols = 0
    · have f2 : MatM.full m = false := by unfold MatM.full; rw [hm]; rcases h1 with h1 | h1 <;> simp [h1]
      unfold meetM; rw [f2]
      unfold spansB mLo mHi; simp [h1]
    · have f2 : MatM.full m = true := by unfold MatM.full; rw [hm]; simp only [not_or] at h1; simp [h1.1, h1.2]
      have p1 := MatM.full_place f1
      have p2 := MatM.full_place f2
      unfold meetM spanLo spanHi; rw [f1, f2]
      unfold spansB vLo vHi mLo mHi
      simp only [h0, h1, if_false, if_true]
      simp only [rowM] at p1 ⊢
      have e1 : decide (x.off ≤ x.off + (x.n - 1) * x.inc) = true := by simp; omega
      have e2 : decide (m.off ≤ m.off + (m.cols - 1) * m.ld + m.rows - 1) = true := by simp; omega
      rw [e1, e2]
      have e3 : x.off + (x.n - 1) * x.inc + 1 - 1 = x.off + (x.n - 1) * x.inc := by omega
      rw [Bool.eq_iff_iff]
      simp only [Bool.and_eq_true, decide_eq_true_eq, Bool.true_and, true_and]
      constructor
      · rintro ⟨a1, a2⟩
        exact ⟨decide_eq_true a1, decide_eq_true (by show m.off ≤ x.off + (x.n - 1) * x.inc + 1 - 1; omega)⟩
      · rintro ⟨a1, a2⟩
        have a3 : x.off ≤ m.off + (m.cols - 1) * m.ld + m.rows - 1 := of_decide_eq_true a1
        have a4 : m.off ≤ x.off + (x.n - 1) * x.inc + 1 - 1 := of_decide_eq_true a2
        omega
theorem ret_tuple2 {a b a' b' : Int} (h1 : a = a') (h2 : b = b') : Ending.returned (.tuple #[.int .i64 a, .int .i64 b]) = .returned (.tuple #[.int .i64 a', .int .i64 b']) := by rw [h1, h2]
set_option maxRecDepth 100000 in
set_option maxHeartbeats 1000000 in
/-- straightedgeref07.VecSpan. -/
theorem vecSpan_any (x : VecM) (D : Value) (w : World) (hD : FS w D x.ws) (hx : x.right = true) (hwf : x.wf) (hl : x.ws.length ≤ 1000000) :
   Calls Try.prog 58 #[.agg #[D, .int .i64 x.off, .int .i64 x.n, .int .i64 x.inc]] w (fun e w' => e = .returned (.tuple #[.int .i64 (vLo x), .int .i64 (vHi x)]) ∧ ∃ o n, w' = ext w o n) := by
  by_cases h0 : x.n = 0
  · have q1 := hid (show vLo x = 0 by unfold vLo; rw [if_pos h0])
    have q2 := hid (show vHi x = -1 by unfold vHi; rw [if_pos h0])
    have d1 : (x.n == 0) = true := by simpa using h0
    clear h0 hx hwf
    go_enter Try.func58, Try.ntmps58
    refine seq_stop ?_
    go_wp2
    refine stop_go (fun W hW => ?_)
    have s1 : w.heap.size < W.heap.size := by rw [hW]; simp only [World.size_alloc]; omega
    have b1 : ∀ i, W.cell? ⟨w.heap.size, i, none⟩ = (#[D, .int .i64 x.off, .int .i64 x.n, .int .i64 x.inc] : Array Value)[i]? := by intro i; rw [hW]; go_simp
    have g0 : Grew w W := by rw [hW]; exact (Grew.refl _).alloc _
    clear hW
    go_wp2
    refine bodyPost_ret (v := .tuple #[.int .i64 0, .int .i64 (-1)]) (by simp [results, Try.results58, go_sem, *]) rfl ?_
    exact ⟨ret_tuple2 q1.out.symm q2.out.symm, by (show Grew _ _; repeat (first | (with_reducible exact Grew.refl _) | (with_reducible assumption) | (with_reducible exact Grew.same_o) | (with_reducible exact Grew.app_o) | (with_reducible refine Grew.ext ?_ _ _) | (with_reducible refine Grew.alloc ?_ _) | ((with_reducible refine Grew.setCell ?_ ?_ _); rotate_left; (focus (dsimp only; first | omega | (simp only [size_ext, World.size_alloc, Array.size_append]; omega)))) | (with_reducible refine Grew.drewN ?_ _) | (with_reducible refine Grew.drew ?_)))⟩
  · have q1 := hid (show vLo x = x.off by unfold vLo; rw [if_neg h0])
    have q2 := hid (show vHi x = x.off + (x.n - 1) * x.inc by unfold vHi; rw [if_neg h0])
    have d1 : (x.n == 0) = false := by simpa using h0
    have hn := VecM.right_n hx
    have hp := VecM.right_place hx (i := (x.n - 1).toNat) (by omega)
    rw [Int.toNat_of_nonneg (by omega)] at hp
    obtain ⟨i1, i2, i3⟩ := hwf
    unfold I64 at i1 i2 i3
    have r1 : IntKind.i64.wrap (x.n - 1) = x.n - 1 := IntWalk.i64_in _ (by omega)
    have r2 : IntKind.i64.wrap ((x.n - 1) * x.inc) = (x.n - 1) * x.inc := IntWalk.i64_in _ (by omega)
    have r3 : IntKind.i64.wrap (x.off + (x.n - 1) * x.inc) = x.off + (x.n - 1) * x.inc := IntWalk.i64_in _ (by omega)
    clear h0 hx
    go_enter Try.func58, Try.ntmps58
    refine seq_stop ?_
    go_wp2
    refine stop_go (fun W hW => ?_)
    have s1 : w.heap.size < W.heap.size := by rw [hW]; simp only [World.size_alloc]; omega
    have b1 : ∀ i, W.cell? ⟨w.heap.size, i, none⟩ = (#[D, .int .i64 x.off, .int .i64 x.n, .int .i64 x.inc] : Array Value)[i]? := by intro i; rw [hW]; go_simp
    have g0 : Grew w W := by rw [hW]; exact (Grew.refl _).alloc _
    clear hW
    go_wp2
    refine wp_region_R (Grew W) [] [(0,0), (0,1), (0,2), (0,3), (0,4), (0,5), (0,6), (0,7), (0,8), (0,9), (0,10), (0,11), (0,12)] (by kernel_rfl) (by kernel_rfl) (fun _ _ _ _ h _ => h) (by first | exact ⟨_, _, ext_drew⟩ | exact ⟨_, _, drew_ext0⟩ | (show Grew _ _; repeat (first | (with_reducible exact Grew.refl _) | (with_reducible assumption) | (with_reducible exact Grew.same_o) | (with_reducible exact Grew.app_o) | (with_reducible refine Grew.ext ?_ _ _) | (with_reducible refine Grew.alloc ?_ _) | ((with_reducible refine Grew.setCell ?_ ?_ _); rotate_left; (focus (dsimp only; first | omega | (simp only [size_ext, World.size_alloc, Array.size_append]; omega)))) | (with_reducible refine Grew.drewN ?_ _) | (with_reducible refine Grew.drew ?_)))) ?_
    go_wp2_with (first | ((with_reducible refine wpR_id ?_); first | (refine wpR_take (v := ?_) rfl rfl ?_ ?_; rotate_left; (focus (rintro w' ⟨o', n', rfl⟩; go_simp; try with_reducible rfl)); simp only [Act.put, List.setIfInBounds_toArray, List.set_cons_zero, List.set_cons_succ]) | (refine wpR_pure (v := ?_) rfl rfl ?_ ?_; rotate_left; (focus (intro w'; go_simp; try with_reducible rfl)); simp only [Act.put, List.setIfInBounds_toArray, List.set_cons_zero, List.set_cons_succ]) | (refine wpR_takeG (v := ?_) rfl rfl rfl rfl rfl ?_ ?_; rotate_left; (focus (rintro w' ⟨o', n', rfl⟩; go_simp; try with_reducible rfl)); simp only [Act.put, List.setIfInBounds_toArray, List.set_cons_zero, List.set_cons_succ]) | (refine wpR_skip rfl rfl rfl rfl rfl rfl ?_; simp only [Act.put, List.setIfInBounds_toArray, List.set_cons_zero, List.set_cons_succ]) | (refine wpR_skipU rfl rfl rfl rfl rfl ?_; simp only [Act.put, List.setIfInBounds_toArray, List.set_cons_zero, List.set_cons_succ]) | (refine wpR_do rfl rfl (fun K hK => ?_)) | (refine wpR_doG rfl rfl rfl rfl rfl (fun K hK => ?_)) | (refine wpR_last rfl rfl (fun K hK => ?_)) | (refine wpR_nil ?_)) | ((with_reducible refine wpR_go ?_ ?_); (focus exact ⟨_, _, rfl⟩)) | ((with_reducible refine upon_id ?_); refine upon_fop rfl (by assumption) (by assumption) ?_; intro rr nn hr))
    refine bodyPost_ret (v := .tuple #[.int .i64 x.off, .int .i64 (x.off + (x.n - 1) * x.inc)]) (by simp [results, Try.results58, go_sem, *]) rfl ?_
    exact ⟨ret_tuple2 q1.out.symm q2.out.symm, by (show Grew _ _; repeat (first | (with_reducible exact Grew.refl _) | (with_reducible assumption) | (with_reducible exact Grew.same_o) | (with_reducible exact Grew.app_o) | (with_reducible refine Grew.ext ?_ _ _) | (with_reducible refine Grew.alloc ?_ _) | ((with_reducible refine Grew.setCell ?_ ?_ _); rotate_left; (focus (dsimp only; first | omega | (simp only [size_ext, World.size_alloc, Array.size_append]; omega)))) | (with_reducible refine Grew.drewN ?_ _) | (with_reducible refine Grew.drew ?_)))⟩
set_option maxRecDepth 100000 in
set_option maxHeartbeats 1000000 in
/-- straightedgeref07.MatSpan. -/
theorem matSpan_any (x : MatM) (D : Value) (w : World) (hD : FS w D x.ws) (hx : x.good = true) (hwf : x.wf) (hl : x.ws.length ≤ 1000000) :
   Calls Try.prog 57 #[.agg #[D, .int .i64 x.off, .int .i64 x.rows, .int .i64 x.cols, .int .i64 x.ld]] w (fun e w' => e = .returned (.tuple #[.int .i64 (mLo x), .int .i64 (mHi x)]) ∧ ∃ o n, w' = ext w o n) := by
  by_cases h0 : x.rows = 0
  · have q1 := hid (show mLo x = 0 by unfold mLo; rw [if_pos (.inl h0)])
    have q2 := hid (show mHi x = -1 by unfold mHi; rw [if_pos (.inl h0)])
    have d1 : (x.rows == 0) = true := by simpa using h0
    clear h0 hx hwf
    go_enter Try.func57, Try.ntmps57
    refine seq_stop ?_
    go_wp2
    refine stop_go (fun W hW => ?_)
    have s1 : w.heap.size < W.heap.size := by rw [hW]; simp only [World.size_alloc]; omega
    have b1 : ∀ i, W.cell? ⟨w.heap.size, i, none⟩ = (#[D, .int .i64 x.off, .int .i64 x.rows, .int .i64 x.cols, .int .i64 x.ld] : Array Value)[i]? := by intro i; rw [hW]; go_simp
    have g0 : Grew w W := by rw [hW]; exact (Grew.refl _).alloc _
    clear hW
    go_wp2
    refine bodyPost_ret (v := .tuple #[.int .i64 0, .int .i64 (-1)]) (by simp [results, Try.results57, go_sem, *]) rfl ?_
    exact ⟨ret_tuple2 q1.out.symm q2.out.symm, by (show Grew _ _; repeat (first | (with_reducible exact Grew.refl _) | (with_reducible assumption) | (with_reducible exact Grew.same_o) | (with_reducible exact Grew.app_o) | (with_reducible refine Grew.ext ?_ _ _) | (with_reducible refine Grew.alloc ?_ _) | ((with_reducible refine Grew.setCell ?_ ?_ _); rotate_left; (focus (dsimp only; first | omega | (simp only [size_ext, World.size_alloc, Array.size_append]; omega)))) | (with_reducible refine Grew.drewN ?_ _) | (with_reducible refine Grew.drew ?_)))⟩
  · have d1 : (x.rows == 0) = false := by simpa using h0
    by_cases h1 : x.cols = 0
    · have q1 := hid (show mLo x = 0 by unfold mLo; rw [if_pos (.inr h1)])
      have q2 := hid (show mHi x = -1 by unfold mHi; rw [if_pos (.inr h1)])
      have d2 : (x.cols == 0) = true := by simpa using h1
      clear h0 h1 hx hwf
      go_enter Try.func57, Try.ntmps57
      refine seq_stop ?_
      go_wp2
      refine stop_go (fun W hW => ?_)
      have s1 : w.heap.size < W.heap.size := by rw [hW]; simp only [World.size_alloc]; omega
      have b1 : ∀ i, W.cell? ⟨w.heap.size, i, none⟩ = (#[D, .int .i64 x.off, .int .i64 x.rows, .int .i64 x.cols, .int .i64 x.ld] : Array Value)[i]? := by intro i; rw [hW]; go_simp
      have g0 : Grew w W := by rw [hW]; exact (Grew.refl _).alloc _
      clear hW
      go_wp2
      refine bodyPost_ret (v := .tuple #[.int .i64 0, .int .i64 (-1)]) (by simp [results, Try.results57, go_sem, *]) rfl ?_
      exact ⟨ret_tuple2 q1.out.symm q2.out.symm, by (show Grew _ _; repeat (first | (with_reducible exact Grew.refl _) | (with_reducible assumption) | (with_reducible exact Grew.same_o) | (with_reducible exact Grew.app_o) | (with_reducible refine Grew.ext ?_ _ _) | (with_reducible refine Grew.alloc ?_ _) | ((with_reducible refine Grew.setCell ?_ ?_ _); rotate_left; (focus (dsimp only; first | omega | (simp only [size_ext, World.size_alloc, Array.size_append]; omega)))) | (with_reducible refine Grew.drewN ?_ _) | (with_reducible refine Grew.drew ?_)))⟩
    · have d2 : (x.cols == 0) = false := by simpa using h1
      have h2 : ¬ (x.rows = 0 ∨ x.cols = 0) := fun h => h.elim h0 h1
      have q1 := hid (show mLo x = x.off by unfold mLo; rw [if_neg h2])
      have q2 := hid (show mHi x = x.off + (x.cols - 1) * x.ld + x.rows - 1 by unfold mHi; rw [if_neg h2])
      have hp := MatM.full_place (m := x) (by unfold MatM.full; rw [hx, d1, d2]; rfl)
      obtain ⟨i1, i2, i3, i4⟩ := hwf
      unfold I64 at i1 i2 i3 i4
      have r1 : IntKind.i64.wrap (x.cols - 1) = x.cols - 1 := IntWalk.i64_in _ (by omega)
      have r2 : IntKind.i64.wrap ((x.cols - 1) * x.ld) = (x.cols - 1) * x.ld := IntWalk.i64_in _ (by omega)
      have r3 : IntKind.i64.wrap (x.off + (x.cols - 1) * x.ld) = x.off + (x.cols - 1) * x.ld := IntWalk.i64_in _ (by omega)
      have r4 : IntKind.i64.wrap (x.off + (x.cols - 1) * x.ld + x.rows) = x.off + (x.cols - 1) * x.ld + x.rows := IntWalk.i64_in _ (by omega)
      have r5 : IntKind.i64.wrap (x.off + (x.cols - 1) * x.ld + x.rows - 1) = x.off + (x.cols - 1) * x.ld + x.rows - 1 := IntWalk.i64_in _ (by omega)
      clear h0 h1 h2 hx
      go_enter Try.func57, Try.ntmps57
      refine seq_stop ?_
      go_wp2
      refine stop_go (fun W hW => ?_)
      have s1 : w.heap.size < W.heap.size := by rw [hW]; simp only [World.size_alloc]; omega
      have b1 : ∀ i, W.cell? ⟨w.heap.size, i, none⟩ = (#[D, .int .i64 x.off, .int .i64 x.rows, .int .i64 x.cols, .int .i64 x.ld] : Array Value)[i]? := by intro i; rw [hW]; go_simp
      have g0 : Grew w W := by rw [hW]; exact (Grew.refl _).alloc _
      clear hW
      go_wp2
      refine wp_region_R (Grew W) [] [(0,0), (0,1), (0,2), (0,3), (0,4), (0,5), (0,6), (0,7), (0,8), (0,9), (0,10), (0,11), (0,12), (0,13), (0,14), (0,15), (0,16)] (by kernel_rfl) (by kernel_rfl) (fun _ _ _ _ h _ => h) (by first | exact ⟨_, _, ext_drew⟩ | exact ⟨_, _, drew_ext0⟩ | (show Grew _ _; repeat (first | (with_reducible exact Grew.refl _) | (with_reducible assumption) | (with_reducible exact Grew.same_o) | (with_reducible exact Grew.app_o) | (with_reducible refine Grew.ext ?_ _ _) | (with_reducible refine Grew.alloc ?_ _) | ((with_reducible refine Grew.setCell ?_ ?_ _); rotate_left; (focus (dsimp only; first | omega | (simp only [size_ext, World.size_alloc, Array.size_append]; omega)))) | (with_reducible refine Grew.drewN ?_ _) | (with_reducible refine Grew.drew ?_)))) ?_
      go_wp2_with (first | ((with_reducible refine wpR_id ?_); first | (refine wpR_take (v := ?_) rfl rfl ?_ ?_; rotate_left; (focus (rintro w' ⟨o', n', rfl⟩; go_simp; try with_reducible rfl)); simp only [Act.put, List.setIfInBounds_toArray, List.set_cons_zero, List.set_cons_succ]) | (refine wpR_pure (v := ?_) rfl rfl ?_ ?_; rotate_left; (focus (intro w'; go_simp; try with_reducible rfl)); simp only [Act.put, List.setIfInBounds_toArray, List.set_cons_zero, List.set_cons_succ]) | (refine wpR_takeG (v := ?_) rfl rfl rfl rfl rfl ?_ ?_; rotate_left; (focus (rintro w' ⟨o', n', rfl⟩; go_simp; try with_reducible rfl)); simp only [Act.put, List.setIfInBounds_toArray, List.set_cons_zero, List.set_cons_succ]) | (refine wpR_skip rfl rfl rfl rfl rfl rfl ?_; simp only [Act.put, List.setIfInBounds_toArray, List.set_cons_zero, List.set_cons_succ]) | (refine wpR_skipU rfl rfl rfl rfl rfl ?_; simp only [Act.put, List.setIfInBounds_toArray, List.set_cons_zero, List.set_cons_succ]) | (refine wpR_do rfl rfl (fun K hK => ?_)) | (refine wpR_doG rfl rfl rfl rfl rfl (fun K hK => ?_)) | (refine wpR_last rfl rfl (fun K hK => ?_)) | (refine wpR_nil ?_)) | ((with_reducible refine wpR_go ?_ ?_); (focus exact ⟨_, _, rfl⟩)) | ((with_reducible refine upon_id ?_); refine upon_fop rfl (by assumption) (by assumption) ?_; intro rr nn hr))
      refine bodyPost_ret (v := .tuple #[.int .i64 x.off, .int .i64 (x.off + (x.cols - 1) * x.ld + x.rows - 1)]) (by simp [results, Try.results57, go_sem, *]) rfl ?_
      exact ⟨ret_tuple2 q1.out.symm q2.out.symm, by (show Grew _ _; repeat (first | (with_reducible exact Grew.refl _) | (with_reducible assumption) | (with_reducible exact Grew.same_o) | (with_reducible exact Grew.app_o) | (with_reducible refine Grew.ext ?_ _ _) | (with_reducible refine Grew.alloc ?_ _) | ((with_reducible refine Grew.setCell ?_ ?_ _); rotate_left; (focus (dsimp only; first | omega | (simp only [size_ext, World.size_alloc, Array.size_append]; omega)))) | (with_reducible refine Grew.drewN ?_ _) | (with_reducible refine Grew.drew ?_)))⟩
set_option maxRecDepth 100000 in
set_option maxHeartbeats 1000000 in
/-- trsv.row. -/
theorem trow_any (x : VecM) (a : Option Addr) (l c : Nat) (w : World) :
   Calls Try.prog 152 #[.agg #[.slice a l c, .int .i64 x.off, .int .i64 x.n, .int .i64 x.inc]] w (fun e w' => e = .returned (.agg #[.slice a l c, .int .i64 x.off, .int .i64 1, .int .i64 x.n, .int .i64 x.inc]) ∧ ∃ o n, w' = ext w o n) := by
  go_enter Try.func152, Try.ntmps152
  refine seq_stop ?_
  go_wp2
  refine stop_go (fun W hW => ?_)
  have s1 : w.heap.size < W.heap.size := by rw [hW]; simp only [World.size_alloc]; omega
  have b1 : ∀ i, W.cell? ⟨w.heap.size, i, none⟩ = (#[.slice a l c, .int .i64 x.off, .int .i64 x.n, .int .i64 x.inc] : Array Value)[i]? := by intro i; rw [hW]; go_simp
  have f1 : ∀ i, W.frozen? ⟨w.heap.size, i, none⟩ = false := by intro i; rw [hW]; go_simp
  have s2 : w.heap.size + 1 < W.heap.size := by rw [hW]; simp only [World.size_alloc]; omega
  have b2 : ∀ i, W.cell? ⟨w.heap.size + 1, i, none⟩ = (#[.slice none 0 0, .int .i64 0, .int .i64 0, .int .i64 0, .int .i64 0] : Array Value)[i]? := by intro i; rw [hW]; go_simp
  have f2 : ∀ i, W.frozen? ⟨w.heap.size + 1, i, none⟩ = false := by intro i; rw [hW]; go_simp
  have g0 : Grew w W := by rw [hW]; exact ((Grew.refl _).alloc _).alloc _
  clear hW
  go_wp2
  refine bodyPost_ret (v := .agg #[.slice a l c, .int .i64 x.off, .int .i64 1, .int .i64 x.n, .int .i64 x.inc]) (by simp [results, Try.results152, go_sem, *]) rfl ?_
  exact ⟨rfl, by (show Grew _ _; repeat (first | (with_reducible exact Grew.refl _) | (with_reducible assumption) | (with_reducible exact Grew.same_o) | (with_reducible exact Grew.app_o) | (with_reducible refine Grew.ext ?_ _ _) | (with_reducible refine Grew.alloc ?_ _) | ((with_reducible refine Grew.setCell ?_ ?_ _); rotate_left; (focus (dsimp only; first | omega | (simp only [size_ext, World.size_alloc, Array.size_append]; omega)))) | (with_reducible refine Grew.drewN ?_ _) | (with_reducible refine Grew.drew ?_)))⟩
end Go.Proofs.Ytcmggfpcbijcjaa
end
section
/-
  Contracts: view.place, view.At; trsv.square, zero; the system's num, at, less.
-/
set_option linter.unusedSimpArgs false
set_option linter.unusedVariables false
open Go Go.RowKit Sedge
namespace Go.Proofs.Ytcmggfpcbijcjaa
set_option maxRecDepth 100000 in
set_option maxHeartbeats 1000000 in
/-- view.place, within. -/
theorem place_any (x : MatM) (D : Value) (i j : Nat) (w : World) (hD : FS w D x.ws) (hx : x.good = true) (hwf : x.wf) (hi : (i : Int) < x.rows) (hj : (j : Int) < x.cols) (hl : x.ws.length ≤ 1000000) :
   Calls Try.prog 159 #[.agg #[D, .int .i64 x.off, .int .i64 x.rows, .int .i64 x.cols, .int .i64 x.ld], .int .i64 i, .int .i64 j] w (fun e w' => e = .returned (.int .i64 (x.off + i + j * x.ld)) ∧ ∃ o n, w' = ext w o n) := by
  have Hw := hid hwf
  have hp := MatM.good_place hx hi hj
  have hn := x.good_n hx
  have r1 : IntKind.i64.wrap (x.off + i) = x.off + i := IntWalk.i64_in _ (by omega)
  have r2 : IntKind.i64.wrap (j * x.ld) = j * x.ld := IntWalk.i64_in _ (by omega)
  have r3 : IntKind.i64.wrap (x.off + i + j * x.ld) = x.off + i + j * x.ld := IntWalk.i64_in _ (by omega)
  have d1 : decide ((i : Int) < 0) = false := by simp
  have d2 : decide ((j : Int) < 0) = false := by simp
  have d3 : decide (x.rows ≤ (i : Int)) = false := by simp; omega
  have d4 : decide (x.cols ≤ (j : Int)) = false := by simp; omega
  clear hwf
  go_enter Try.func159, Try.ntmps159
  refine seq_stop ?_
  go_wp2
  refine stop_go (fun W hW => ?_)
  have s1 : w.heap.size < W.heap.size := by rw [hW]; simp only [World.size_alloc]; omega
  have b1 : ∀ i, W.cell? ⟨w.heap.size, i, none⟩ = (#[D, .int .i64 x.off, .int .i64 x.rows, .int .i64 x.cols, .int .i64 x.ld] : Array Value)[i]? := by intro i; rw [hW]; go_simp
  have g0 : Grew w W := by rw [hW]; exact (Grew.refl _).alloc _
  clear hW
  have hDW := hD.grew g0
  go_wp2_with (first | (go_at_call 130; ((with_reducible refine (good_any x _ _ ?_ Hw.out).mono ?_); (focus (first | (with_reducible assumption) | (with_reducible refine FS.ext ?_ _ _; with_reducible assumption) | (with_reducible refine IS.ext ?_ _ _; with_reducible assumption) | (refine hDu _ ?_; with_reducible assumption) | (refine hOu _ ?_; with_reducible assumption) | (refine hDa _ ?_; with_reducible assumption) | (refine hDb _ ?_; with_reducible assumption) | (refine hDc _ ?_; with_reducible assumption) | (refine hDd _ ?_; with_reducible assumption) | (refine FW.fs ?_ (by omega) _; with_reducible assumption) | (refine WS.fs ?_; with_reducible assumption) | (refine FW.fs ?_ (by omega) _; assumption) | omega | assumption)); rintro e w1 ⟨rfl, o1, n1, rfl⟩)))
  go_ret
  exact ⟨rfl, by (show Grew _ _; repeat (first | (with_reducible exact Grew.refl _) | (with_reducible assumption) | (with_reducible exact Grew.same_o) | (with_reducible exact Grew.app_o) | (with_reducible refine Grew.ext ?_ _ _) | (with_reducible refine Grew.alloc ?_ _) | ((with_reducible refine Grew.setCell ?_ ?_ _); rotate_left; (focus (dsimp only; first | omega | (simp only [size_ext, World.size_alloc, Array.size_append]; omega)))) | (with_reducible refine Grew.drewN ?_ _) | (with_reducible refine Grew.drew ?_)))⟩
set_option maxRecDepth 100000 in
set_option maxHeartbeats 1000000 in
/-- view.At, within. -/
theorem vat_any (x : MatM) (D : Value) (i j : Nat) (w : World) (hD : FS w D x.ws) (hx : x.good = true) (hwf : x.wf) (hi : (i : Int) < x.rows) (hj : (j : Int) < x.cols) (hl : x.ws.length ≤ 1000000) :
   Calls Try.prog 186 #[.agg #[D, .int .i64 x.off, .int .i64 x.rows, .int .i64 x.cols, .int .i64 x.ld], .int .i64 i, .int .i64 j] w (fun e w' => ∃ b, e = .returned (.float .f64 b) ∧ IsF b (x.num i j) ∧ ∃ o n, w' = ext w o n) := by
  have hp := MatM.good_place hx hi hj
  obtain ⟨blk, o, cap, rfl, hblk, hc⟩ := hD.open (by omega)
  have hpl : ∀ w', FS w' (.slice (some ⟨blk, o, none⟩) x.ws.length cap) x.ws → Calls Try.prog 159 #[.agg #[.slice (some ⟨blk, o, none⟩) x.ws.length cap, .int .i64 x.off, .int .i64 x.rows, .int .i64 x.cols, .int .i64 x.ld], .int .i64 i, .int .i64 j] w' (fun e w2 => e = .returned (.int .i64 (x.off + i + j * x.ld)) ∧ ∃ o n, w2 = ext w' o n) := fun w' h => place_any x _ i j w' h hx hwf hi hj hl
  obtain ⟨b, hb0, hf⟩ := hc (x.place i j) (by unfold MatM.place; omega)
  have hf' : IsF b (x.num i j) := hf
  unfold MatM.place at hb0
  have d0 : decide (0 ≤ x.off + i + j * x.ld) = true := by simp; omega
  clear hx hwf hc
  go_enter Try.func186, Try.ntmps186
  refine seq_stop ?_
  go_wp2
  refine stop_go (fun W hW => ?_)
  have s1 : w.heap.size < W.heap.size := by rw [hW]; simp only [World.size_alloc]; omega
  have b1 : ∀ i, W.cell? ⟨w.heap.size, i, none⟩ = (#[.slice (some ⟨blk, o, none⟩) x.ws.length cap, .int .i64 x.off, .int .i64 x.rows, .int .i64 x.cols, .int .i64 x.ld] : Array Value)[i]? := by intro i; rw [hW]; go_simp
  have g0 : Grew w W := by rw [hW]; exact (Grew.refl _).alloc _
  clear hW
  have hDW := hD.grew g0
  have hb := (g0.cell hblk).trans hb0
  have kb : blk < W.heap.size := by omega
  go_wp2_with (first | (go_at_call 159; ((with_reducible refine (hpl _ ?_).mono ?_); (focus (first | (with_reducible assumption) | (with_reducible refine FS.ext ?_ _ _; with_reducible assumption) | (with_reducible refine IS.ext ?_ _ _; with_reducible assumption) | (refine hDu _ ?_; with_reducible assumption) | (refine hOu _ ?_; with_reducible assumption) | (refine hDa _ ?_; with_reducible assumption) | (refine hDb _ ?_; with_reducible assumption) | (refine hDc _ ?_; with_reducible assumption) | (refine hDd _ ?_; with_reducible assumption) | (refine FW.fs ?_ (by omega) _; with_reducible assumption) | (refine WS.fs ?_; with_reducible assumption) | (refine FW.fs ?_ (by omega) _; assumption) | omega | assumption)); rintro e w1 ⟨rfl, o1, n1, rfl⟩)))
  go_ret
  exact ⟨b, rfl, hf', by (show Grew _ _; repeat (first | (with_reducible exact Grew.refl _) | (with_reducible assumption) | (with_reducible exact Grew.same_o) | (with_reducible exact Grew.app_o) | (with_reducible refine Grew.ext ?_ _ _) | (with_reducible refine Grew.alloc ?_ _) | ((with_reducible refine Grew.setCell ?_ ?_ _); rotate_left; (focus (dsimp only; first | omega | (simp only [size_ext, World.size_alloc, Array.size_append]; omega)))) | (with_reducible refine Grew.drewN ?_ _) | (with_reducible refine Grew.drew ?_)))⟩
def sqE (k : Int) (x : MatM) (n : Int) : Int := if k < 1 ∨ 4 < k ∨ x.good = false then 1 else if x.rows = x.cols ∧ x.rows = n then 0 else 3
set_option maxRecDepth 100000 in
set_option maxHeartbeats 1000000 in
/-- trsv.square. -/
theorem square_any (k : Int) (x : MatM) (D : Value) (n : Int) (w : World) (hD : FS w D x.ws) (hwf : x.wf) :
   Calls Try.prog 151 #[.int .i64 k, .agg #[D, .int .i64 x.off, .int .i64 x.rows, .int .i64 x.cols, .int .i64 x.ld], .int .i64 n] w (fun e w' => e = .returned (.int .i64 (sqE k x n)) ∧ ∃ o n, w' = ext w o n) := by
  have Hw := hid hwf
  clear hwf
  by_cases k1 : k < 1
  · have q := hid (show sqE k x n = 1 by unfold sqE; rw [if_pos (.inl k1)])
    have d1 : decide (k < 1) = true := by simpa using k1
    go_enter Try.func151, Try.ntmps151
    refine seq_stop ?_
    go_wp2
    refine stop_go (fun W hW => ?_)
    have s1 : w.heap.size < W.heap.size := by rw [hW]; simp only [World.size_alloc]; omega
    have b1 : ∀ i, W.cell? ⟨w.heap.size, i, none⟩ = (#[D, .int .i64 x.off, .int .i64 x.rows, .int .i64 x.cols, .int .i64 x.ld] : Array Value)[i]? := by intro i; rw [hW]; go_simp
    have g0 : Grew w W := by rw [hW]; exact (Grew.refl _).alloc _
    clear hW
    have hDW := hD.grew g0
    go_wp2_with (first | (go_at_call 130; ((with_reducible refine (good_any x _ _ ?_ Hw.out).mono ?_); (focus (first | (with_reducible assumption) | (with_reducible refine FS.ext ?_ _ _; with_reducible assumption) | (with_reducible refine IS.ext ?_ _ _; with_reducible assumption) | (refine hDu _ ?_; with_reducible assumption) | (refine hOu _ ?_; with_reducible assumption) | (refine hDa _ ?_; with_reducible assumption) | (refine hDb _ ?_; with_reducible assumption) | (refine hDc _ ?_; with_reducible assumption) | (refine hDd _ ?_; with_reducible assumption) | (refine FW.fs ?_ (by omega) _; with_reducible assumption) | (refine WS.fs ?_; with_reducible assumption) | (refine FW.fs ?_ (by omega) _; assumption) | omega | assumption)); rintro e w1 ⟨rfl, o1, n1, rfl⟩)))
    go_ret
    exact ⟨ret_int q.out.symm, by (show Grew _ _; repeat (first | (with_reducible exact Grew.refl _) | (with_reducible assumption) | (with_reducible exact Grew.same_o) | (with_reducible exact Grew.app_o) | (with_reducible refine Grew.ext ?_ _ _) | (with_reducible refine Grew.alloc ?_ _) | ((with_reducible refine Grew.setCell ?_ ?_ _); rotate_left; (focus (dsimp only; first | omega | (simp only [size_ext, World.size_alloc, Array.size_append]; omega)))) | (with_reducible refine Grew.drewN ?_ _) | (with_reducible refine Grew.drew ?_)))⟩
  · have d1 : decide (k < 1) = false := by simpa using k1
    by_cases k2 : 4 < k
    · have q := hid (show sqE k x n = 1 by unfold sqE; rw [if_pos (.inr (.inl k2))])
      have d2 : decide (4 < k) = true := by simpa using k2
      go_enter Try.func151, Try.ntmps151
      refine seq_stop ?_
      go_wp2
      refine stop_go (fun W hW => ?_)
      have s1 : w.heap.size < W.heap.size := by rw [hW]; simp only [World.size_alloc]; omega
      have b1 : ∀ i, W.cell? ⟨w.heap.size, i, none⟩ = (#[D, .int .i64 x.off, .int .i64 x.rows, .int .i64 x.cols, .int .i64 x.ld] : Array Value)[i]? := by intro i; rw [hW]; go_simp
      have g0 : Grew w W := by rw [hW]; exact (Grew.refl _).alloc _
      clear hW
      have hDW := hD.grew g0
      go_wp2_with (first | (go_at_call 130; ((with_reducible refine (good_any x _ _ ?_ Hw.out).mono ?_); (focus (first | (with_reducible assumption) | (with_reducible refine FS.ext ?_ _ _; with_reducible assumption) | (with_reducible refine IS.ext ?_ _ _; with_reducible assumption) | (refine hDu _ ?_; with_reducible assumption) | (refine hOu _ ?_; with_reducible assumption) | (refine hDa _ ?_; with_reducible assumption) | (refine hDb _ ?_; with_reducible assumption) | (refine hDc _ ?_; with_reducible assumption) | (refine hDd _ ?_; with_reducible assumption) | (refine FW.fs ?_ (by omega) _; with_reducible assumption) | (refine WS.fs ?_; with_reducible assumption) | (refine FW.fs ?_ (by omega) _; assumption) | omega | assumption)); rintro e w1 ⟨rfl, o1, n1, rfl⟩)))
      go_ret
      exact ⟨ret_int q.out.symm, by (show Grew _ _; repeat (first | (with_reducible exact Grew.refl _) | (with_reducible assumption) | (with_reducible exact Grew.same_o) | (with_reducible exact Grew.app_o) | (with_reducible refine Grew.ext ?_ _ _) | (with_reducible refine Grew.alloc ?_ _) | ((with_reducible refine Grew.setCell ?_ ?_ _); rotate_left; (focus (dsimp only; first | omega | (simp only [size_ext, World.size_alloc, Array.size_append]; omega)))) | (with_reducible refine Grew.drewN ?_ _) | (with_reducible refine Grew.drew ?_)))⟩
    · have d2 : decide (4 < k) = false := by simpa using k2
      cases hg : x.good
      · have q := hid (show sqE k x n = 1 by unfold sqE; rw [if_pos (.inr (.inr hg))])
        go_enter Try.func151, Try.ntmps151
        refine seq_stop ?_
        go_wp2
        refine stop_go (fun W hW => ?_)
        have s1 : w.heap.size < W.heap.size := by rw [hW]; simp only [World.size_alloc]; omega
        have b1 : ∀ i, W.cell? ⟨w.heap.size, i, none⟩ = (#[D, .int .i64 x.off, .int .i64 x.rows, .int .i64 x.cols, .int .i64 x.ld] : Array Value)[i]? := by intro i; rw [hW]; go_simp
        have g0 : Grew w W := by rw [hW]; exact (Grew.refl _).alloc _
        clear hW
        have hDW := hD.grew g0
        go_wp2_with (first | (go_at_call 130; ((with_reducible refine (good_any x _ _ ?_ Hw.out).mono ?_); (focus (first | (with_reducible assumption) | (with_reducible refine FS.ext ?_ _ _; with_reducible assumption) | (with_reducible refine IS.ext ?_ _ _; with_reducible assumption) | (refine hDu _ ?_; with_reducible assumption) | (refine hOu _ ?_; with_reducible assumption) | (refine hDa _ ?_; with_reducible assumption) | (refine hDb _ ?_; with_reducible assumption) | (refine hDc _ ?_; with_reducible assumption) | (refine hDd _ ?_; with_reducible assumption) | (refine FW.fs ?_ (by omega) _; with_reducible assumption) | (refine WS.fs ?_; with_reducible assumption) | (refine FW.fs ?_ (by omega) _; assumption) | omega | assumption)); rintro e w1 ⟨rfl, o1, n1, rfl⟩)))
        go_ret
        exact ⟨ret_int q.out.symm, by (show Grew _ _; repeat (first | (with_reducible exact Grew.refl _) | (with_reducible assumption) | (with_reducible exact Grew.same_o) | (with_reducible exact Grew.app_o) | (with_reducible refine Grew.ext ?_ _ _) | (with_reducible refine Grew.alloc ?_ _) | ((with_reducible refine Grew.setCell ?_ ?_ _); rotate_left; (focus (dsimp only; first | omega | (simp only [size_ext, World.size_alloc, Array.size_append]; omega)))) | (with_reducible refine Grew.drewN ?_ _) | (with_reducible refine Grew.drew ?_)))⟩
      · have h3 : ¬ (k < 1 ∨ 4 < k ∨ x.good = false) := fun h => h.elim k1 (fun h => h.elim k2 (fun h => by rw [hg] at h; cases h))
        by_cases r1 : x.rows = x.cols
        · have e1 : (x.rows != x.cols) = false := by simpa using r1
          by_cases r2 : x.rows = n
          · have e2 : (x.rows != n) = false := by simpa using r2
            have q := hid (show sqE k x n = 0 by unfold sqE; rw [if_neg h3, if_pos ⟨r1, r2⟩])
            clear h3 r1 r2
            go_enter Try.func151, Try.ntmps151
            refine seq_stop ?_
            go_wp2
            refine stop_go (fun W hW => ?_)
            have s1 : w.heap.size < W.heap.size := by rw [hW]; simp only [World.size_alloc]; omega
            have b1 : ∀ i, W.cell? ⟨w.heap.size, i, none⟩ = (#[D, .int .i64 x.off, .int .i64 x.rows, .int .i64 x.cols, .int .i64 x.ld] : Array Value)[i]? := by intro i; rw [hW]; go_simp
            have g0 : Grew w W := by rw [hW]; exact (Grew.refl _).alloc _
            clear hW
            have hDW := hD.grew g0
            go_wp2_with (first | (go_at_call 130; ((with_reducible refine (good_any x _ _ ?_ Hw.out).mono ?_); (focus (first | (with_reducible assumption) | (with_reducible refine FS.ext ?_ _ _; with_reducible assumption) | (with_reducible refine IS.ext ?_ _ _; with_reducible assumption) | (refine hDu _ ?_; with_reducible assumption) | (refine hOu _ ?_; with_reducible assumption) | (refine hDa _ ?_; with_reducible assumption) | (refine hDb _ ?_; with_reducible assumption) | (refine hDc _ ?_; with_reducible assumption) | (refine hDd _ ?_; with_reducible assumption) | (refine FW.fs ?_ (by omega) _; with_reducible assumption) | (refine WS.fs ?_; with_reducible assumption) | (refine FW.fs ?_ (by omega) _; assumption) | omega | assumption)); rintro e w1 ⟨rfl, o1, n1, rfl⟩)))
            go_ret
            exact ⟨ret_int q.out.symm, by (show Grew _ _; repeat (first | (with_reducible exact Grew.refl _) | (with_reducible assumption) | (with_reducible exact Grew.same_o) | (with_reducible exact Grew.app_o) | (with_reducible refine Grew.ext ?_ _ _) | (with_reducible refine Grew.alloc ?_ _) | ((with_reducible refine Grew.setCell ?_ ?_ _); rotate_left; (focus (dsimp only; first | omega | (simp only [size_ext, World.size_alloc, Array.size_append]; omega)))) | (with_reducible refine Grew.drewN ?_ _) | (with_reducible refine Grew.drew ?_)))⟩
          · have e2 : (x.rows != n) = true := by simpa using r2
            have q := hid (show sqE k x n = 3 by unfold sqE; rw [if_neg h3, if_neg (fun h => r2 h.2)])
            clear h3 r1 r2
            go_enter Try.func151, Try.ntmps151
            refine seq_stop ?_
            go_wp2
            refine stop_go (fun W hW => ?_)
            have s1 : w.heap.size < W.heap.size := by rw [hW]; simp only [World.size_alloc]; omega
            have b1 : ∀ i, W.cell? ⟨w.heap.size, i, none⟩ = (#[D, .int .i64 x.off, .int .i64 x.rows, .int .i64 x.cols, .int .i64 x.ld] : Array Value)[i]? := by intro i; rw [hW]; go_simp
            have g0 : Grew w W := by rw [hW]; exact (Grew.refl _).alloc _
            clear hW
            have hDW := hD.grew g0
            go_wp2_with (first | (go_at_call 130; ((with_reducible refine (good_any x _ _ ?_ Hw.out).mono ?_); (focus (first | (with_reducible assumption) | (with_reducible refine FS.ext ?_ _ _; with_reducible assumption) | (with_reducible refine IS.ext ?_ _ _; with_reducible assumption) | (refine hDu _ ?_; with_reducible assumption) | (refine hOu _ ?_; with_reducible assumption) | (refine hDa _ ?_; with_reducible assumption) | (refine hDb _ ?_; with_reducible assumption) | (refine hDc _ ?_; with_reducible assumption) | (refine hDd _ ?_; with_reducible assumption) | (refine FW.fs ?_ (by omega) _; with_reducible assumption) | (refine WS.fs ?_; with_reducible assumption) | (refine FW.fs ?_ (by omega) _; assumption) | omega | assumption)); rintro e w1 ⟨rfl, o1, n1, rfl⟩)))
            go_ret
            exact ⟨ret_int q.out.symm, by (show Grew _ _; repeat (first | (with_reducible exact Grew.refl _) | (with_reducible assumption) | (with_reducible exact Grew.same_o) | (with_reducible exact Grew.app_o) | (with_reducible refine Grew.ext ?_ _ _) | (with_reducible refine Grew.alloc ?_ _) | ((with_reducible refine Grew.setCell ?_ ?_ _); rotate_left; (focus (dsimp only; first | omega | (simp only [size_ext, World.size_alloc, Array.size_append]; omega)))) | (with_reducible refine Grew.drewN ?_ _) | (with_reducible refine Grew.drew ?_)))⟩
        · have e1 : (x.rows != x.cols) = true := by simpa using r1
          have q := hid (show sqE k x n = 3 by unfold sqE; rw [if_neg h3, if_neg (fun h => r1 h.1)])
          clear h3 r1
          go_enter Try.func151, Try.ntmps151
          refine seq_stop ?_
          go_wp2
          refine stop_go (fun W hW => ?_)
          have s1 : w.heap.size < W.heap.size := by rw [hW]; simp only [World.size_alloc]; omega
          have b1 : ∀ i, W.cell? ⟨w.heap.size, i, none⟩ = (#[D, .int .i64 x.off, .int .i64 x.rows, .int .i64 x.cols, .int .i64 x.ld] : Array Value)[i]? := by intro i; rw [hW]; go_simp
          have g0 : Grew w W := by rw [hW]; exact (Grew.refl _).alloc _
          clear hW
          have hDW := hD.grew g0
          go_wp2_with (first | (go_at_call 130; ((with_reducible refine (good_any x _ _ ?_ Hw.out).mono ?_); (focus (first | (with_reducible assumption) | (with_reducible refine FS.ext ?_ _ _; with_reducible assumption) | (with_reducible refine IS.ext ?_ _ _; with_reducible assumption) | (refine hDu _ ?_; with_reducible assumption) | (refine hOu _ ?_; with_reducible assumption) | (refine hDa _ ?_; with_reducible assumption) | (refine hDb _ ?_; with_reducible assumption) | (refine hDc _ ?_; with_reducible assumption) | (refine hDd _ ?_; with_reducible assumption) | (refine FW.fs ?_ (by omega) _; with_reducible assumption) | (refine WS.fs ?_; with_reducible assumption) | (refine FW.fs ?_ (by omega) _; assumption) | omega | assumption)); rintro e w1 ⟨rfl, o1, n1, rfl⟩)))
          go_ret
          exact ⟨ret_int q.out.symm, by (show Grew _ _; repeat (first | (with_reducible exact Grew.refl _) | (with_reducible assumption) | (with_reducible exact Grew.same_o) | (with_reducible exact Grew.app_o) | (with_reducible refine Grew.ext ?_ _ _) | (with_reducible refine Grew.alloc ?_ _) | ((with_reducible refine Grew.setCell ?_ ?_ _); rotate_left; (focus (dsimp only; first | omega | (simp only [size_ext, World.size_alloc, Array.size_append]; omega)))) | (with_reducible refine Grew.drewN ?_ _) | (with_reducible refine Grew.drew ?_)))⟩
end Go.Proofs.Ytcmggfpcbijcjaa
end
section
/-
  Contracts: single operations on floats; sums, the greatest, the place of the greatest, products (layer 5 and its reference).
-/
set_option linter.unusedSimpArgs false
set_option linter.unusedVariables false
open Go Go.RowKit Sedge
namespace Go.Proofs.Ytcmggfpcbijcjaa
theorem gt_fact {r s X Y : Nat} (hr : IsF r X) (hs : IsF s Y) {v : Bool} (h : (FloatKind.f64.format.order r s == some .gt) = v) : fgt X Y = v := by
  unfold fgt; rw [← hr.order hs]; exact h
theorem isF_zero : IsF 0 0 := ⟨by decide, by decide +kernel⟩
theorem plus_any (a b x y : Nat) (w : World) (hx : IsF a x) (hy : IsF b y) :
   Calls Try.prog 36 #[.float .f64 a, .float .f64 b] w (fun e w' => ∃ r, e = .returned (.float .f64 r) ∧ IsF r (fadd x y) ∧ ∃ o n, w' = ext w o n) := by
  go_enter Try.func36, Try.ntmps36
  go_wp2_with ((with_reducible refine upon_id ?_); refine upon_fop rfl (by assumption) (by assumption) ?_; intro rr nn hr)
  go_ret
  exact ⟨rr, rfl, hr, _, _, drewN_ext0 _⟩
theorem times_any (a b x y : Nat) (w : World) (hx : IsF a x) (hy : IsF b y) :
   Calls Try.prog 141 #[.float .f64 a, .float .f64 b] w (fun e w' => ∃ r, e = .returned (.float .f64 r) ∧ IsF r (fmul x y) ∧ ∃ o n, w' = ext w o n) := by
  go_enter Try.func141, Try.ntmps141
  go_wp2_with ((with_reducible refine upon_id ?_); refine upon_fop rfl (by assumption) (by assumption) ?_; intro rr nn hr)
  go_ret
  exact ⟨rr, rfl, hr, _, _, drewN_ext0 _⟩
theorem less_any (a b x y : Nat) (w : World) (hx : IsF a x) (hy : IsF b y) :
   Calls Try.prog 183 #[.float .f64 a, .float .f64 b] w (fun e w' => ∃ r, e = .returned (.float .f64 r) ∧ IsF r (fsub x y) ∧ ∃ o n, w' = ext w o n) := by
  go_enter Try.func183, Try.ntmps183
  go_wp2_with ((with_reducible refine upon_id ?_); refine upon_fop rfl (by assumption) (by assumption) ?_; intro rr nn hr)
  go_ret
  exact ⟨rr, rfl, hr, _, _, drewN_ext0 _⟩
theorem over_any (a b x y : Nat) (w : World) (hx : IsF a x) (hy : IsF b y) :
   Calls Try.prog 158 #[.float .f64 a, .float .f64 b] w (fun e w' => ∃ r, e = .returned (.float .f64 r) ∧ IsF r (fdiv x y) ∧ ∃ o n, w' = ext w o n) := by
  go_enter Try.func158, Try.ntmps158
  go_wp2_with ((with_reducible refine upon_id ?_); refine upon_fop rfl (by assumption) (by assumption) ?_; intro rr nn hr)
  go_ret
  exact ⟨rr, rfl, hr, _, _, drewN_ext0 _⟩

/-- A sum in its order. -/
def fsumTo (l : List Nat) : Nat → Nat
  | 0 => 0
  | k + 1 => fadd (fsumTo l k) (l.getD k 0)
set_option maxRecDepth 100000 in
set_option maxHeartbeats 1000000 in
theorem sum_any (D : Value) (ws : List Nat) (w : World) (hD : FS w D ws) :
   Calls Try.prog 38 #[D] w (fun e w' => ∃ r, e = .returned (.float .f64 r) ∧ IsF r (fsumTo ws ws.length) ∧ ∃ o n, w' = ext w o n) := by
  obtain ⟨a, cap, rfl⟩ := hD.shape
  have hl := hD.len
  have HD := hD.at.2
  clear hD
  have hl' : (ws.length : Int) ≤ 9223372036854775807 := by omega
  go_enter Try.func38, Try.ntmps38
  go_wp2
  go_loopw [3, 8] (fun s c wr => ∃ k b : Nat, k ≤ ws.length ∧ c = .int .i64 k ∧ s = .float .f64 b ∧ IsF b (fsumTo ws k) ∧ ∃ o n, wr = ext w o n) (fun _ c _ => ws.length - (intOf c).toNat)
  case atStart => exact ⟨0, 0, Nat.zero_le _, rfl, rfl, isF_zero, _, _, ext_zero.symm⟩
  case round =>
    obtain ⟨k, s, hk, rfl, rfl, hs, oo, nn, hwr⟩ := hrel
    subst hwr
    by_cases hlt : k < ws.length
    · obtain ⟨blk, o, rfl, hblk, hc⟩ := HD (by omega)
      obtain ⟨b, hb, hx⟩ := hc k hlt
      clear hc HD
      go_wp2_with ((with_reducible refine upon_id ?_); refine upon_fop rfl (by assumption) (by assumption) ?_; intro rr nn hr)
      go_roundw
      case rel => exact ⟨k + 1, rr, by omega, by go_num, rfl, hr, _, _, rfl⟩
      case measure => simp [intOf]; omega
    · go_wp2
      go_ret
      have e : ws.length = k := by omega
      exact ⟨s, rfl, by rw [e]; exact hs, _, _, rfl⟩

/-- The greatest of numbers and 0, without NaNs. -/
def fmaxTo (l : List Nat) : Nat → Nat
  | 0 => 0
  | k + 1 => if fgt (l.getD k 0) (fmaxTo l k) = true then l.getD k 0 else fmaxTo l k
def anyNan (l : List Nat) : Bool := l.any isNan
def fgreatest (l : List Nat) : Nat := if anyNan l then QN else fmaxTo l l.length
theorem anyNan_take (l : List Nat) (k : Nat) (h : k < l.length) : anyNan (l.take (k + 1)) = (anyNan (l.take k) || isNan (l.getD k 0)) := by
  unfold anyNan
  have e1 : l.take (k + 1) = l.take k ++ [l[k]] := List.take_succ_eq_append_getElem h
  rw [e1, List.any_append]
  simp [List.getD_eq_getElem?_getD, h]
theorem anyNan_yes (l : List Nat) (k : Nat) (h : k < l.length) (hn : isNan (l.getD k 0) = true) : anyNan l = true := by
  unfold anyNan
  rw [List.any_eq_true]
  refine ⟨l.getD k 0, ?_, hn⟩
  rw [List.getD_eq_getElem?_getD, List.getElem?_eq_getElem h]; exact List.getElem_mem h
set_option maxRecDepth 100000 in
set_option maxHeartbeats 1000000 in
theorem greatest_any (D : Value) (ws : List Nat) (w : World) (hD : FS w D ws) :
   Calls Try.prog 39 #[D] w (fun e w' => ∃ r, e = .returned (.float .f64 r) ∧ IsF r (fgreatest ws) ∧ w = w') := by
  obtain ⟨a, cap, rfl⟩ := hD.shape
  have hl := hD.len
  have HD := hD.at.2
  clear hD
  have hl' : (ws.length : Int) ≤ 9223372036854775807 := by omega
  go_enter Try.func39, Try.ntmps39
  go_wp2
  go_loop [3, 8] (fun s c => ∃ k b : Nat, k ≤ ws.length ∧ c = .int .i64 k ∧ s = .float .f64 b ∧ IsF b (fmaxTo ws k) ∧ anyNan (ws.take k) = false) (fun _ c => ws.length - (intOf c).toNat)
  case atStart => exact ⟨0, 0, Nat.zero_le _, rfl, rfl, isF_zero, rfl⟩
  case round =>
    obtain ⟨k, s, hk, rfl, rfl, hs, hn⟩ := hrel
    have Hn := hid hn
    clear hn
    by_cases hlt : k < ws.length
    · obtain ⟨blk, o, rfl, hblk, hc⟩ := HD (by omega)
      obtain ⟨b, hb, hx⟩ := hc k hlt
      clear hc HD
      have e1 := order_self b
      rw [hx.nan] at e1
      cases hnan : isNan (ws.getD k 0)
      · have q1 : (FloatKind.f64.format.order b b != some .eq) = false := e1.trans hnan
        have e2 : (FloatKind.f64.format.order b s == some .gt) = fgt (ws.getD k 0) (fmaxTo ws k) := by
          unfold fgt; rw [← hx.order hs]; rfl
        have Hnan := hid hnan
        clear hnan e1
        cases hg : fgt (ws.getD k 0) (fmaxTo ws k)
        · have q2 := e2.trans hg
          have Hg := hid hg
          clear hg e2
          go_wp2
          go_round
          case rel => exact ⟨k + 1, s, by omega, by go_num, rfl, by unfold fmaxTo; rw [if_neg (by rw [Hg.out]; decide)]; exact hs, by rw [anyNan_take _ _ hlt, Hn.out, Hnan.out]; rfl⟩
          case measure => simp [intOf]; omega
        · have q2 := e2.trans hg
          have Hg := hid hg
          clear hg e2
          go_wp2
          go_round
          case rel => exact ⟨k + 1, b, by omega, by go_num, rfl, by unfold fmaxTo; rw [if_pos Hg.out]; exact hx, by rw [anyNan_take _ _ hlt, Hn.out, Hnan.out]; rfl⟩
          case measure => simp [intOf]; omega
      · have q1 : (FloatKind.f64.format.order b b != some .eq) = true := e1.trans hnan
        have Hnan := hid hnan
        clear hnan e1
        go_wp2
        go_ret
        refine ⟨b, rfl, ?_, rfl⟩
        unfold fgreatest
        rw [if_pos (anyNan_yes _ _ hlt Hnan.out)]
        exact ⟨hx.1, by rw [hx.2]; exact isNan_can hx.canonical Hnan.out⟩
    · go_wp2
      go_ret
      refine ⟨s, rfl, ?_, rfl⟩
      have e := Hn.out
      rw [List.take_of_length_le (by omega)] at e
      unfold fgreatest
      rw [e]
      have e : ws.length = k := by omega
      rw [e]; exact hs
set_option maxRecDepth 100000 in
set_option maxHeartbeats 1000000 in
theorem rgreatest_any (D : Value) (ws : List Nat) (w : World) (hD : FS w D ws) :
   Calls Try.prog 40 #[D] w (fun e w' => ∃ r, e = .returned (.float .f64 r) ∧ IsF r (fgreatest ws) ∧ ∃ o n, w' = ext w o n) := by
  obtain ⟨a, cap, rfl⟩ := hD.shape
  have hl := hD.len
  have HD := hD.at.2
  clear hD
  have hl' : (ws.length : Int) ≤ 9223372036854775807 := by omega
  go_enter Try.func40, Try.ntmps40
  go_wp2
  go_loopw [4] (fun c wr => ∃ k : Nat, k ≤ ws.length ∧ c = .int .i64 k ∧ anyNan (ws.take k) = false ∧ ∃ o n, wr = ext w o n) (fun c _ => ws.length - (intOf c).toNat)
  case atStart => exact ⟨0, Nat.zero_le _, rfl, rfl, _, _, ext_zero.symm⟩
  case round =>
    obtain ⟨k, hk, rfl, hn, oo, nn, hwr⟩ := hrel
    subst hwr
    have Hn := hid hn
    clear hn
    by_cases hlt : k < ws.length
    · obtain ⟨blk, o, rfl, hblk, hc⟩ := HD (by omega)
      obtain ⟨b, hb, hx⟩ := hc k hlt
      clear hc HD
      have e1 := order_self b
      rw [hx.nan] at e1
      have hi0 : (0 : Int) ≤ (k : Int) := by omega
      have hi1 : (k : Int) < (ws.length : Int) := by omega
      cases hnan : isNan (ws.getD k 0)
      · have q1 : (FloatKind.f64.format.order b b != some .eq) = false := e1.trans hnan
        have Hnan := hid hnan
        clear hnan e1
        go_wp2
        refine wp_region_R (Grew w) [] [(0,0), (0,1), (0,2), (0,3), (0,4), (0,5), (0,6), (0,7), (0,8)] (by kernel_rfl) (by kernel_rfl) (fun _ _ _ _ h _ => h) (by first | exact ⟨_, _, ext_drew⟩ | exact ⟨_, _, drew_ext0⟩ | (show Grew _ _; repeat (first | (with_reducible exact Grew.refl _) | (with_reducible assumption) | (with_reducible exact Grew.same_o) | (with_reducible exact Grew.app_o) | (with_reducible refine Grew.ext ?_ _ _) | (with_reducible refine Grew.alloc ?_ _) | ((with_reducible refine Grew.setCell ?_ ?_ _); rotate_left; (focus (dsimp only; first | omega | (simp only [size_ext, World.size_alloc, Array.size_append]; omega)))) | (with_reducible refine Grew.drewN ?_ _) | (with_reducible refine Grew.drew ?_)))) ?_
        go_wp2_with (first | ((with_reducible refine wpR_id ?_); first | (refine wpR_take (v := ?_) rfl rfl ?_ ?_; rotate_left; (focus (rintro w' ⟨o', n', rfl⟩; go_simp; try with_reducible rfl)); simp only [Act.put, List.setIfInBounds_toArray, List.set_cons_zero, List.set_cons_succ]) | (refine wpR_pure (v := ?_) rfl rfl ?_ ?_; rotate_left; (focus (intro w'; go_simp; try with_reducible rfl)); simp only [Act.put, List.setIfInBounds_toArray, List.set_cons_zero, List.set_cons_succ]) | (refine wpR_takeG (v := ?_) rfl rfl rfl rfl rfl ?_ ?_; rotate_left; (focus (rintro w' ⟨o', n', rfl⟩; go_simp; try with_reducible rfl)); simp only [Act.put, List.setIfInBounds_toArray, List.set_cons_zero, List.set_cons_succ]) | (refine wpR_skip rfl rfl rfl rfl rfl rfl ?_; simp only [Act.put, List.setIfInBounds_toArray, List.set_cons_zero, List.set_cons_succ]) | (refine wpR_skipU rfl rfl rfl rfl rfl ?_; simp only [Act.put, List.setIfInBounds_toArray, List.set_cons_zero, List.set_cons_succ]) | (refine wpR_do rfl rfl (fun K hK => ?_)) | (refine wpR_doG rfl rfl rfl rfl rfl (fun K hK => ?_)) | (refine wpR_last rfl rfl (fun K hK => ?_)) | (refine wpR_nil ?_)) | ((with_reducible refine wpR_go ?_ ?_); (focus exact ⟨_, _, rfl⟩)) | ((with_reducible refine upon_id ?_); refine upon_fop rfl (by assumption) (by assumption) ?_; intro rr nn hr))
        go_roundw
        case rel => exact ⟨k + 1, by omega, by go_num, by rw [anyNan_take _ _ hlt, Hn.out, Hnan.out]; rfl, _, _, rfl⟩
        case measure => simp [intOf]; omega
      · have q1 : (FloatKind.f64.format.order b b != some .eq) = true := e1.trans hnan
        have Hnan := hid hnan
        clear hnan e1
        go_wp2
        refine wp_region_R (Grew w) [] [(0,0), (0,1), (0,2), (0,3), (0,4), (0,5), (0,6), (0,7), (0,8)] (by kernel_rfl) (by kernel_rfl) (fun _ _ _ _ h _ => h) (by first | exact ⟨_, _, ext_drew⟩ | exact ⟨_, _, drew_ext0⟩ | (show Grew _ _; repeat (first | (with_reducible exact Grew.refl _) | (with_reducible assumption) | (with_reducible exact Grew.same_o) | (with_reducible exact Grew.app_o) | (with_reducible refine Grew.ext ?_ _ _) | (with_reducible refine Grew.alloc ?_ _) | ((with_reducible refine Grew.setCell ?_ ?_ _); rotate_left; (focus (dsimp only; first | omega | (simp only [size_ext, World.size_alloc, Array.size_append]; omega)))) | (with_reducible refine Grew.drewN ?_ _) | (with_reducible refine Grew.drew ?_)))) ?_
        go_wp2_with (first | ((with_reducible refine wpR_id ?_); first | (refine wpR_take (v := ?_) rfl rfl ?_ ?_; rotate_left; (focus (rintro w' ⟨o', n', rfl⟩; go_simp; try with_reducible rfl)); simp only [Act.put, List.setIfInBounds_toArray, List.set_cons_zero, List.set_cons_succ]) | (refine wpR_pure (v := ?_) rfl rfl ?_ ?_; rotate_left; (focus (intro w'; go_simp; try with_reducible rfl)); simp only [Act.put, List.setIfInBounds_toArray, List.set_cons_zero, List.set_cons_succ]) | (refine wpR_takeG (v := ?_) rfl rfl rfl rfl rfl ?_ ?_; rotate_left; (focus (rintro w' ⟨o', n', rfl⟩; go_simp; try with_reducible rfl)); simp only [Act.put, List.setIfInBounds_toArray, List.set_cons_zero, List.set_cons_succ]) | (refine wpR_skip rfl rfl rfl rfl rfl rfl ?_; simp only [Act.put, List.setIfInBounds_toArray, List.set_cons_zero, List.set_cons_succ]) | (refine wpR_skipU rfl rfl rfl rfl rfl ?_; simp only [Act.put, List.setIfInBounds_toArray, List.set_cons_zero, List.set_cons_succ]) | (refine wpR_do rfl rfl (fun K hK => ?_)) | (refine wpR_doG rfl rfl rfl rfl rfl (fun K hK => ?_)) | (refine wpR_last rfl rfl (fun K hK => ?_)) | (refine wpR_nil ?_)) | ((with_reducible refine wpR_go ?_ ?_); (focus exact ⟨_, _, rfl⟩)) | ((with_reducible refine upon_id ?_); refine upon_fop rfl (by assumption) (by assumption) ?_; intro rr nn hr))
        go_ret
        refine ⟨b, rfl, ?_, _, _, rfl⟩
        unfold fgreatest
        rw [if_pos (anyNan_yes _ _ hlt Hnan.out)]
        exact ⟨hx.1, by rw [hx.2]; exact isNan_can hx.canonical Hnan.out⟩
    · have hall : anyNan ws = false := by
        have e := Hn.out
        rwa [List.take_of_length_le (by omega)] at e
      have Hall := hid hall
      clear hall
      go_wp2
      go_loopw [3, 5] (fun s c wr => ∃ j b : Nat, j ≤ ws.length ∧ c = .int .i64 j ∧ s = .float .f64 b ∧ IsF b (fmaxTo ws j) ∧ ∃ o n, wr = ext w o n) (fun _ c _ => ws.length - (intOf c).toNat)
      case atStart => exact ⟨0, 0, Nat.zero_le _, rfl, rfl, isF_zero, _, _, rfl⟩
      case round =>
        obtain ⟨j, s, hj, rfl, rfl, hs, oo2, nn2, hwr2⟩ := hrel
        subst hwr2
        by_cases hlt2 : j < ws.length
        · obtain ⟨blk, o, rfl, hblk, hc⟩ := HD (by omega)
          obtain ⟨b, hb, hx⟩ := hc j hlt2
          clear hc HD
          have e2 : (FloatKind.f64.format.order b s == some .gt) = fgt (ws.getD j 0) (fmaxTo ws j) := by
            unfold fgt; rw [← hx.order hs]; rfl
          cases hg : fgt (ws.getD j 0) (fmaxTo ws j)
          · have q2 := e2.trans hg
            have Hg := hid hg
            clear hg e2
            go_wp2
            go_roundw
            case rel => exact ⟨j + 1, s, by omega, by go_num, rfl, by unfold fmaxTo; rw [if_neg (by rw [Hg.out]; decide)]; exact hs, _, _, rfl⟩
            case measure => simp [intOf]; omega
          · have q2 := e2.trans hg
            have Hg := hid hg
            clear hg e2
            go_wp2
            go_roundw
            case rel => exact ⟨j + 1, b, by omega, by go_num, rfl, by unfold fmaxTo; rw [if_pos Hg.out]; exact hx, _, _, rfl⟩
            case measure => simp [intOf]; omega
        · go_wp2
          go_ret
          refine ⟨s, rfl, ?_, _, _, rfl⟩
          unfold fgreatest
          rw [Hall.out]
          have e : ws.length = j := by omega
          rw [e]; exact hs
end Go.Proofs.Ytcmggfpcbijcjaa
end
