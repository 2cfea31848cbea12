/-
  Texts laid one behind the other (a claim has at most 60 files): Lac1, Lac2, Lac3, LacS, Lac4, Lac5.
-/
import Derived.Deep.CutBlock
import Derived.Deep.DeepCutAuto
import Derived.Test.YtcmggfpcbijcjaaQLacnBelow1
import Derived.Test.YtcmggfpcbijcjaaQLacnBelow2
import Derived.Test.YtcmggfpcbijcjaaQLacnBelow3
section
/-
  Contracts for LacnBelow: norms.Vector (205, 219), slices.Clone (208), slices.Equal (212), lacn.vec (190), lacn.New (188).
-/
set_option linter.unusedSimpArgs false
set_option linter.unusedVariables false
open Go Go.RowKit Sedge
namespace Go.Proofs.Ytcmggfpcbijcjaa
/-- Numbers without their signs. -/
def absL (l : List Nat) : List Nat := mapTo (fun i => fabs (l.getD i 0)) l.length
theorem absL_length (l : List Nat) : (absL l).length = l.length := mapTo_length _ _
theorem absL_getD {l : List Nat} {i : Nat} (h : i < l.length) : (absL l).getD i 0 = fabs (l.getD i 0) := by
  unfold absL mapTo
  rw [List.getD_eq_getElem?_getD, List.getElem?_map, List.getElem?_range h]; rfl
set_option maxRecDepth 100000 in
set_option maxHeartbeats 1000000 in
/-- norms.without. -/
theorem without_any (X : Value) (l : List Nat) (w : World) (hX : FS w X l) (hl : l.length ≤ 1000000) :
   Calls Try.prog 219 #[X] w (fun e w' => ∃ v, e = .returned v ∧ FS w' v (absL l) ∧ ∃ o n, w' = ext w o n) := by
  obtain ⟨aX, cX, rfl⟩ := hX.shape
  go_enter Try.func219, Try.ntmps219
  go_wp2
  go_loopw [3, 8] (fun v c wr => ∃ (i : Nat) (o : Array Obj) (n : Nat), i ≤ l.length ∧ c = .int .i64 i ∧ wr = ext w o n ∧ OwnF 22 wr w.heap.size v (mapTo (fun i => fabs (l.getD i 0)) i)) (fun _ c _ => l.length - (intOf c).toNat)
  case atStart => exact ⟨0, #[], _, Nat.zero_le _, rfl, ext_zero.symm, by simpa [mapTo] using OwnF.nil _ _ _⟩
  case round =>
    obtain ⟨i, o3, n3, hi, rfl, hwr, hown⟩ := hrel
    have gw : Grew w wr := ⟨_, _, hwr⟩
    clear hwr
    by_cases hlt : i < l.length
    · obtain ⟨blk, o, cap', ex, hblk, hc⟩ := (hX.grew gw).open (by omega)
      simp only [Value.slice.injEq] at ex
      obtain ⟨rfl, -, rfl⟩ := ex
      obtain ⟨b, hb, hf⟩ := hc i hlt
      have hll : (mapTo (fun i => fabs (l.getD i 0)) i).length = i := mapTo_length _ _
      clear hc
      go_wp2_with (first | (go_at_call 164; ((with_reducible refine (mabs_any b _ _ hf).mono ?_); rintro e w1 ⟨rr, rfl, hr, rfl⟩)) | (at_builtin; refine append1_f (W := w) (v := u3) (xs := mapTo (fun i => fabs (l.getD i 0)) i) (y := fabs (l.getD i 0)) finfo ?_ ?_ ?_ ((by rw [hll]; omega)) _ _ rfl rfl rfl ?_ rfl ?_; (focus (refine Grew.trans gw ?_; (show Grew _ _; repeat (first | (with_reducible exact Grew.refl _) | (with_reducible assumption) | (with_reducible exact Grew.same_o) | (with_reducible exact Grew.app_o) | (with_reducible refine Grew.ext ?_ _ _) | (with_reducible refine Grew.alloc ?_ _) | ((with_reducible refine Grew.setCell ?_ ?_ _); rotate_left; (focus (dsimp only; first | omega | (simp only [size_ext, World.size_alloc, Array.size_append]; omega)))) | (with_reducible refine Grew.drewN ?_ _) | (with_reducible refine Grew.drew ?_))))); (focus (refine OwnF.grew (w := wr) ?_ ?_; (focus (with_reducible assumption)); (focus (show Grew _ _; repeat (first | (with_reducible exact Grew.refl _) | (with_reducible assumption) | (with_reducible exact Grew.same_o) | (with_reducible exact Grew.app_o) | (with_reducible refine Grew.ext ?_ _ _) | (with_reducible refine Grew.alloc ?_ _) | ((with_reducible refine Grew.setCell ?_ ?_ _); rotate_left; (focus (dsimp only; first | omega | (simp only [size_ext, World.size_alloc, Array.size_append]; omega)))) | (with_reducible refine Grew.drewN ?_ _) | (with_reducible refine Grew.drew ?_)))))); (focus (exact hr)); (focus (first | rfl | (simp only [size_ext, World.size_alloc, Array.size_append]; done) | (simp only [size_ext, World.size_alloc, Array.size_append]; omega))); intro v oo nn ho hn))
      go_roundw
      case rel => exact ⟨i + 1, oo, nn, by omega, by go_num, rfl, by rw [mapTo_succ]; exact ho⟩
      case measure => simp [intOf]; omega
    · have e : i = l.length := by omega
      have hfs := hown.fs (by rw [mapTo_length]; omega)
      rw [e] at hfs
      go_wp2
      go_ret
      exact ⟨_, rfl, hfs, gw⟩
set_option maxRecDepth 100000 in
/-- norms.Vector. -/
theorem nvec_any (X : Value) (l : List Nat) (w : World) (hX : FS w X l) (hl : l.length ≤ 1000000) :
   Calls Try.prog 205 #[X] w (fun e w' => ∃ r q, e = .returned (.tuple #[.float .f64 r, .float .f64 q]) ∧ IsF r (fsumTo (absL l) l.length) ∧ ∃ o n, w' = ext w o n) := by
  have hwo := fun w' (g : Grew w w') => without_any X l w' (hX.grew g) hl
  have hal := absL_length l
  obtain ⟨A, hA⟩ : ∃ A, A = absL l := ⟨_, rfl⟩
  rw [← hA] at hwo hal ⊢
  rw [← hal]
  clear hX hA
  go_enter Try.func205, Try.ntmps205
  go_wp2_with (first | (go_at_call 219; ((with_reducible refine (hwo _ (by (show Grew _ _; (try simp only [← Array.append_assoc]); repeat (first | (with_reducible exact Grew.same_o) | (with_reducible exact Grew.refl _) | (with_reducible assumption) | (with_reducible refine Grew.alloc ?_ _) | (with_reducible refine Grew.app_r ?_) | ((with_reducible refine Grew.setCell ?_ ?_ _); rotate_left; (focus (dsimp only; first | omega | (simp only [size_ext, World.size_alloc, Array.size_append]; omega)))) | (with_reducible refine Grew.ext ?_ _ _) | (with_reducible refine Grew.drewN ?_ _) | (with_reducible refine Grew.drew ?_))))).mono ?_); rintro e w1 ⟨v, rfl, hv, o1, n1, rfl⟩)) | (go_at_call 38; ((with_reducible refine (sum_any _ A _ (hv.grew (by (show Grew _ _; (try simp only [← Array.append_assoc]); repeat (first | (with_reducible exact Grew.same_o) | (with_reducible exact Grew.refl _) | (with_reducible assumption) | (with_reducible refine Grew.alloc ?_ _) | (with_reducible refine Grew.app_r ?_) | ((with_reducible refine Grew.setCell ?_ ?_ _); rotate_left; (focus (dsimp only; first | omega | (simp only [size_ext, World.size_alloc, Array.size_append]; omega)))) | (with_reducible refine Grew.ext ?_ _ _) | (with_reducible refine Grew.drewN ?_ _) | (with_reducible refine Grew.drew ?_)))))).mono ?_); rintro e w1 ⟨r, rfl, hr, o2, n2, rfl⟩)) | (go_at_call 39; ((with_reducible refine (greatest_any _ A _ (hv.grew (by (show Grew _ _; (try simp only [← Array.append_assoc]); repeat (first | (with_reducible exact Grew.same_o) | (with_reducible exact Grew.refl _) | (with_reducible assumption) | (with_reducible refine Grew.alloc ?_ _) | (with_reducible refine Grew.app_r ?_) | ((with_reducible refine Grew.setCell ?_ ?_ _); rotate_left; (focus (dsimp only; first | omega | (simp only [size_ext, World.size_alloc, Array.size_append]; omega)))) | (with_reducible refine Grew.ext ?_ _ _) | (with_reducible refine Grew.drewN ?_ _) | (with_reducible refine Grew.drew ?_)))))).mono ?_); rintro e w1 ⟨q, rfl, hq, rfl⟩)))
  refine bodyPost_ret (v := .tuple #[.float .f64 r, .float .f64 q]) (by simp [results, Try.results205, go_sem, *]) rfl ?_
  exact ⟨r, q, rfl, hr, by (show Grew _ _; (try simp only [← Array.append_assoc]); repeat (first | (with_reducible exact Grew.same_o) | (with_reducible exact Grew.refl _) | (with_reducible assumption) | (with_reducible refine Grew.alloc ?_ _) | (with_reducible refine Grew.app_r ?_) | ((with_reducible refine Grew.setCell ?_ ?_ _); rotate_left; (focus (dsimp only; first | omega | (simp only [size_ext, World.size_alloc, Array.size_append]; omega)))) | (with_reducible refine Grew.ext ?_ _ _) | (with_reducible refine Grew.drewN ?_ _) | (with_reducible refine Grew.drew ?_)))⟩
set_option maxRecDepth 100000 in
/-- slices.Clone, of a list that isn't empty. -/
theorem sclone_any (X : Value) (l : List Nat) (w : World) (hX : FS w X l) (hl : l.length ≤ 1000000) (h1 : 1 ≤ l.length) :
   Calls Try.prog 208 #[X] w (fun e w' => ∃ a n c, e = .returned (.slice a n c) ∧ ∃ o n, w' = ext w o n) := by
  obtain ⟨aX, cX, rfl⟩ := hX.shape
  obtain ⟨bx, ox, rfl, hbx, hc⟩ := hX.at.2 (by omega)
  clear hc
  have hnil : ∀ w', Sem.run Try.prog (Go.binOp BinOp.eql 24 (Value.slice (some ⟨bx, ox, none⟩) l.length cX) (Value.slice none 0 0)) w' = Result.ok (Value.bool false) w' := fun _ => by kernel_rfl
  go_enter Try.func208, Try.ntmps208
  go_wp2_with (at_builtin; refine appendN_f finfo (Grew.refl w |>.alloc _) (OwnF.empty rfl (Nat.le_refl _)) (FS.alloc hX _) (by simp; omega) _ _ rfl rfl rfl rfl ?_; intro v oo nn ho hn; obtain ⟨g, cap, rfl, hg, hF, hL⟩ := ho.ws (hn notnil) (by simp; omega); simp only [List.nil_append] at hF hL)
  go_ret
  exact ⟨_, _, _, rfl, by (show Grew _ _; (try simp only [← Array.append_assoc]); repeat (first | (with_reducible exact Grew.same_o) | (with_reducible exact Grew.refl _) | (with_reducible assumption) | (with_reducible refine Grew.alloc ?_ _) | (with_reducible refine Grew.app_r ?_) | ((with_reducible refine Grew.setCell ?_ ?_ _); rotate_left; (focus (dsimp only; first | omega | (simp only [size_ext, World.size_alloc, Array.size_append]; omega)))) | (with_reducible refine Grew.ext ?_ _ _) | (with_reducible refine Grew.drewN ?_ _) | (with_reducible refine Grew.drew ?_)))⟩
/-- Are the numbers of two lists the same worths? -/
def seqF (S T : List Nat) : Bool := decide (S.length = T.length) && (List.range S.length).all fun k => feq (S.getD k 0) (T.getD k 0)
theorem seqF_no {S T : List Nat} {k : Nat} (hk : k < S.length) (h : feq (S.getD k 0) (T.getD k 0) = false) : seqF S T = false := by
  unfold seqF
  rw [Bool.and_eq_false_iff]
  right
  rw [List.all_eq_false]
  exact ⟨k, by simpa using hk, by rw [h]; decide⟩
theorem seqF_yes {S T : List Nat} (he : S.length = T.length) (h : ∀ k, k < S.length → feq (S.getD k 0) (T.getD k 0) = true) : seqF S T = true := by
  unfold seqF
  rw [Bool.and_eq_true, List.all_eq_true]
  exact ⟨by simpa using he, fun k hk => h k (by simpa using hk)⟩
set_option maxRecDepth 100000 in
set_option maxHeartbeats 2000000 in
/-- slices.Equal, of lists as long as each other. -/
theorem sequal_any (D E : Value) (xs ys : List Nat) (w : World) (hD : FS w D xs) (hE : FS w E ys) (hn : xs.length = ys.length) :
   Calls Try.prog 212 #[D, E] w (fun e w' => e = .returned (.bool (seqF xs ys)) ∧ ∃ o n, w' = ext w o n) := by
  obtain ⟨a, cap, rfl⟩ := hD.shape
  obtain ⟨a', cap', rfl⟩ := hE.shape
  have hl := hD.len
  have HD := hD.at.2
  have HE := hE.at.2
  have hb0 : ((xs.length : Int) != (ys.length : Int)) = false := by simp; omega
  have Hn := hid hn
  clear hD hE hn
  go_enter Try.func212, Try.ntmps212
  go_wp2
  go_loopw [5, 13] (fun s c wr => ∃ k : Nat, k ≤ xs.length ∧ c = .int .i64 k ∧ Grew w wr ∧ ∀ j, j < k → feq (xs.getD j 0) (ys.getD j 0) = true) (fun _ c _ => xs.length - (intOf c).toNat)
  case atStart => exact ⟨0, Nat.zero_le _, rfl, Grew.refl _, fun j hj => by omega⟩
  case round =>
    obtain ⟨k, hk, rfl, gr, hall⟩ := hrel
    by_cases hlt : k < xs.length
    · obtain ⟨blk, o, rfl, hblk, hc⟩ := HD (by omega)
      obtain ⟨b, hb, hx⟩ := hc k hlt
      obtain ⟨blk', o', rfl, hblk', hc'⟩ := HE (by have := Hn.out; omega)
      obtain ⟨b', hb', hx'⟩ := hc' k (by have := Hn.out; omega)
      have hy2 : k < ys.length := by have := Hn.out; omega
      clear hc hc' HD HE
      have c1 := (gr.cell hblk).trans hb
      have c2 := (gr.cell hblk').trans hb'
      have k1 := Nat.lt_of_lt_of_le hblk gr.below.size
      have k2 := Nat.lt_of_lt_of_le hblk' gr.below.size
      have eo : FloatKind.f64.format.order b b' = D64.order (xs.getD k 0) (ys.getD k 0) := hx.order hx'
      cases hf : feq (xs.getD k 0) (ys.getD k 0)
      · have e2 : (FloatKind.f64.format.order b b' != some Ordering.eq) = true := by
          rw [eo]; unfold feq at hf; unfold bne; rw [hf]; rfl
        have hs := seqF_no hlt hf
        clear hb hb' hx hx' hblk hblk' eo hf hall
        go_wp2
        refine wp_region_R (Grew wr) [] [(0,0), (0,1), (0,2), (0,3), (0,4), (0,5), (0,6), (0,7), (0,8)] (by kernel_rfl) (by kernel_rfl) (fun _ _ _ _ h _ => h) (by first | exact ⟨_, _, ext_drew⟩ | exact ⟨_, _, drew_ext0⟩ | (show Grew _ _; repeat (first | (with_reducible exact Grew.refl _) | (with_reducible assumption) | (with_reducible exact Grew.same_o) | (with_reducible exact Grew.app_o) | (with_reducible refine Grew.ext ?_ _ _) | (with_reducible refine Grew.alloc ?_ _) | ((with_reducible refine Grew.setCell ?_ ?_ _); rotate_left; (focus (dsimp only; first | omega | (simp only [size_ext, World.size_alloc, Array.size_append]; omega)))) | (with_reducible refine Grew.drewN ?_ _) | (with_reducible refine Grew.drew ?_)))) ?_
        go_wp2_with (first | ((with_reducible refine wpR_id ?_); first | (refine wpR_take (v := ?_) rfl rfl ?_ ?_; rotate_left; (focus (rintro w' ⟨o', n', rfl⟩; go_simp; try with_reducible rfl)); simp only [Act.put, List.setIfInBounds_toArray, List.set_cons_zero, List.set_cons_succ]) | (refine wpR_pure (v := ?_) rfl rfl ?_ ?_; rotate_left; (focus (intro w'; go_simp; try with_reducible rfl)); simp only [Act.put, List.setIfInBounds_toArray, List.set_cons_zero, List.set_cons_succ]) | (refine wpR_takeG (v := ?_) rfl rfl rfl rfl rfl ?_ ?_; rotate_left; (focus (rintro w' ⟨o', n', rfl⟩; go_simp; try with_reducible rfl)); simp only [Act.put, List.setIfInBounds_toArray, List.set_cons_zero, List.set_cons_succ]) | (refine wpR_skip rfl rfl rfl rfl rfl rfl ?_; simp only [Act.put, List.setIfInBounds_toArray, List.set_cons_zero, List.set_cons_succ]) | (refine wpR_skipU rfl rfl rfl rfl rfl ?_; simp only [Act.put, List.setIfInBounds_toArray, List.set_cons_zero, List.set_cons_succ]) | (refine wpR_do rfl rfl (fun K hK => ?_)) | (refine wpR_doG rfl rfl rfl rfl rfl (fun K hK => ?_)) | (refine wpR_last rfl rfl (fun K hK => ?_)) | (refine wpR_nil ?_)) | ((with_reducible refine wpR_go ?_ ?_); (focus (show Grew _ _; repeat (first | (with_reducible exact Grew.refl _) | (with_reducible assumption) | (with_reducible exact Grew.same_o) | (with_reducible exact Grew.app_o) | (with_reducible refine Grew.ext ?_ _ _) | (with_reducible refine Grew.alloc ?_ _) | ((with_reducible refine Grew.setCell ?_ ?_ _); rotate_left; (focus (dsimp only; first | omega | (simp only [size_ext, World.size_alloc, Array.size_append]; omega)))) | (with_reducible refine Grew.drewN ?_ _) | (with_reducible refine Grew.drew ?_))))) | ((with_reducible refine upon_id ?_); refine upon_fop rfl (by assumption) (by assumption) ?_; intro rr nn hr))
        go_ret
        rw [hs]
        exact ⟨rfl, Grew.trans gr (by (show Grew _ _; (try simp only [← Array.append_assoc]); repeat (first | (with_reducible exact Grew.same_o) | (with_reducible exact Grew.refl _) | (with_reducible assumption) | (with_reducible refine Grew.alloc ?_ _) | (with_reducible refine Grew.app_r ?_) | ((with_reducible refine Grew.setCell ?_ ?_ _); rotate_left; (focus (dsimp only; first | omega | (simp only [size_ext, World.size_alloc, Array.size_append]; omega)))) | (with_reducible refine Grew.ext ?_ _ _) | (with_reducible refine Grew.drewN ?_ _) | (with_reducible refine Grew.drew ?_))))⟩
      · have e2 : (FloatKind.f64.format.order b b' != some Ordering.eq) = false := by
          rw [eo]; unfold feq at hf; unfold bne; rw [hf]; rfl
        have hall2 : ∀ j, j < k + 1 → feq (xs.getD j 0) (ys.getD j 0) = true := fun j hj => by
          rcases (show j < k ∨ j = k by omega) with h | h
          · exact hall j h
          · rw [h]; exact hf
        have HA := hid hall2
        clear hb hb' hx hx' hblk hblk' eo hf hall hall2
        go_wp2
        refine wp_region_R (Grew wr) [] [(0,0), (0,1), (0,2), (0,3), (0,4), (0,5), (0,6), (0,7), (0,8)] (by kernel_rfl) (by kernel_rfl) (fun _ _ _ _ h _ => h) (by first | exact ⟨_, _, ext_drew⟩ | exact ⟨_, _, drew_ext0⟩ | (show Grew _ _; repeat (first | (with_reducible exact Grew.refl _) | (with_reducible assumption) | (with_reducible exact Grew.same_o) | (with_reducible exact Grew.app_o) | (with_reducible refine Grew.ext ?_ _ _) | (with_reducible refine Grew.alloc ?_ _) | ((with_reducible refine Grew.setCell ?_ ?_ _); rotate_left; (focus (dsimp only; first | omega | (simp only [size_ext, World.size_alloc, Array.size_append]; omega)))) | (with_reducible refine Grew.drewN ?_ _) | (with_reducible refine Grew.drew ?_)))) ?_
        go_wp2_with (first | ((with_reducible refine wpR_id ?_); first | (refine wpR_take (v := ?_) rfl rfl ?_ ?_; rotate_left; (focus (rintro w' ⟨o', n', rfl⟩; go_simp; try with_reducible rfl)); simp only [Act.put, List.setIfInBounds_toArray, List.set_cons_zero, List.set_cons_succ]) | (refine wpR_pure (v := ?_) rfl rfl ?_ ?_; rotate_left; (focus (intro w'; go_simp; try with_reducible rfl)); simp only [Act.put, List.setIfInBounds_toArray, List.set_cons_zero, List.set_cons_succ]) | (refine wpR_takeG (v := ?_) rfl rfl rfl rfl rfl ?_ ?_; rotate_left; (focus (rintro w' ⟨o', n', rfl⟩; go_simp; try with_reducible rfl)); simp only [Act.put, List.setIfInBounds_toArray, List.set_cons_zero, List.set_cons_succ]) | (refine wpR_skip rfl rfl rfl rfl rfl rfl ?_; simp only [Act.put, List.setIfInBounds_toArray, List.set_cons_zero, List.set_cons_succ]) | (refine wpR_skipU rfl rfl rfl rfl rfl ?_; simp only [Act.put, List.setIfInBounds_toArray, List.set_cons_zero, List.set_cons_succ]) | (refine wpR_do rfl rfl (fun K hK => ?_)) | (refine wpR_doG rfl rfl rfl rfl rfl (fun K hK => ?_)) | (refine wpR_last rfl rfl (fun K hK => ?_)) | (refine wpR_nil ?_)) | ((with_reducible refine wpR_go ?_ ?_); (focus (show Grew _ _; repeat (first | (with_reducible exact Grew.refl _) | (with_reducible assumption) | (with_reducible exact Grew.same_o) | (with_reducible exact Grew.app_o) | (with_reducible refine Grew.ext ?_ _ _) | (with_reducible refine Grew.alloc ?_ _) | ((with_reducible refine Grew.setCell ?_ ?_ _); rotate_left; (focus (dsimp only; first | omega | (simp only [size_ext, World.size_alloc, Array.size_append]; omega)))) | (with_reducible refine Grew.drewN ?_ _) | (with_reducible refine Grew.drew ?_))))) | ((with_reducible refine upon_id ?_); refine upon_fop rfl (by assumption) (by assumption) ?_; intro rr nn hr))
        go_roundw
        case rel => exact ⟨k + 1, hlt, by go_num, Grew.trans gr (by (show Grew _ _; (try simp only [← Array.append_assoc]); repeat (first | (with_reducible exact Grew.same_o) | (with_reducible exact Grew.refl _) | (with_reducible assumption) | (with_reducible refine Grew.alloc ?_ _) | (with_reducible refine Grew.app_r ?_) | ((with_reducible refine Grew.setCell ?_ ?_ _); rotate_left; (focus (dsimp only; first | omega | (simp only [size_ext, World.size_alloc, Array.size_append]; omega)))) | (with_reducible refine Grew.ext ?_ _ _) | (with_reducible refine Grew.drewN ?_ _) | (with_reducible refine Grew.drew ?_)))), HA.out⟩
        case measure => simp [intOf]; omega
    · have e : k = xs.length := by omega
      subst e
      have hs := seqF_yes Hn.out hall
      clear hall
      go_wp2
      go_ret
      rw [hs]
      exact ⟨rfl, Grew.trans gr (by (show Grew _ _; (try simp only [← Array.append_assoc]); repeat (first | (with_reducible exact Grew.same_o) | (with_reducible exact Grew.refl _) | (with_reducible assumption) | (with_reducible refine Grew.alloc ?_ _) | (with_reducible refine Grew.app_r ?_) | ((with_reducible refine Grew.setCell ?_ ?_ _); rotate_left; (focus (dsimp only; first | omega | (simp only [size_ext, World.size_alloc, Array.size_append]; omega)))) | (with_reducible refine Grew.ext ?_ _ _) | (with_reducible refine Grew.drewN ?_ _) | (with_reducible refine Grew.drew ?_))))⟩
set_option maxRecDepth 100000 in
/-- lacn.vec. -/
theorem lvec_any (a : Option Addr) (n c : Nat) (w : World) : Calls Try.prog 190 #[.slice a n c] w (fun e w' => e = .returned (.agg #[.slice a n c, .int .i64 0, .int .i64 n, .int .i64 1]) ∧ ∃ o n, w' = ext w o n) := by
  go_enter Try.func190, Try.ntmps190
  go_wp2
  refine bodyPost_ret (v := .agg #[.slice a n c, .int .i64 0, .int .i64 n, .int .i64 1]) (by simp [results, Try.results190, go_sem, *]) rfl ?_
  exact ⟨rfl, by (show Grew _ _; (try simp only [← Array.append_assoc]); repeat (first | (with_reducible exact Grew.same_o) | (with_reducible exact Grew.refl _) | (with_reducible assumption) | (with_reducible refine Grew.alloc ?_ _) | (with_reducible refine Grew.app_r ?_) | ((with_reducible refine Grew.setCell ?_ ?_ _); rotate_left; (focus (dsimp only; first | omega | (simp only [size_ext, World.size_alloc, Array.size_append]; omega)))) | (with_reducible refine Grew.ext ?_ _ _) | (with_reducible refine Grew.drewN ?_ _) | (with_reducible refine Grew.drew ?_)))⟩
set_option maxRecDepth 100000 in
/-- lacn.New. -/
theorem lnew_ok (n : Nat) (w : World) (h1 : 1 ≤ n) (h2 : n ≤ 64) : Calls Try.prog 188 #[.int .i64 n] w (fun e w' => ∃ p, e = .returned (.tuple #[.pointer (some ⟨p, 0, none⟩), .int .i64 0]) ∧ w.heap.size ≤ p ∧ Box w' p #[.int .i64 n, .int .i64 0, .float .f64 0, .slice none 0 0, .slice none 0 0, .int .i64 0, .int .i64 0] ∧ ∃ o n, w' = ext w o n) := by
  have d1 : decide ((n : Int) < 1) = false := by simp; omega
  have d2 : decide ((64 : Int) < (n : Int)) = false := by simp; omega
  go_enter Try.func188, Try.ntmps188
  go_wp2
  refine bodyPost_ret (v := .tuple #[.pointer (some ⟨w.heap.size, 0, none⟩), .int .i64 0]) (by simp [results, Try.results188, go_sem, *]) rfl ?_
  exact ⟨_, rfl, Nat.le_refl _, Box.new' rfl, by (show Grew _ _; (try simp only [← Array.append_assoc]); repeat (first | (with_reducible exact Grew.same_o) | (with_reducible exact Grew.refl _) | (with_reducible assumption) | (with_reducible refine Grew.alloc ?_ _) | (with_reducible refine Grew.app_r ?_) | ((with_reducible refine Grew.setCell ?_ ?_ _); rotate_left; (focus (dsimp only; first | omega | (simp only [size_ext, World.size_alloc, Array.size_append]; omega)))) | (with_reducible refine Grew.ext ?_ _ _) | (with_reducible refine Grew.drewN ?_ _) | (with_reducible refine Grew.drew ?_)))⟩
set_option maxRecDepth 100000 in
theorem lnew_no (w : World) : Calls Try.prog 188 #[.int .i64 0] w (fun e w' => e = .returned (.tuple #[.pointer none, .int .i64 1]) ∧ ∃ o n, w' = ext w o n) := by
  go_enter Try.func188, Try.ntmps188
  go_wp2
  refine bodyPost_ret (v := .tuple #[.pointer none, .int .i64 1]) (by simp [results, Try.results188, go_sem, *]) rfl ?_
  exact ⟨rfl, by (show Grew _ _; (try simp only [← Array.append_assoc]); repeat (first | (with_reducible exact Grew.same_o) | (with_reducible exact Grew.refl _) | (with_reducible assumption) | (with_reducible refine Grew.alloc ?_ _) | (with_reducible refine Grew.app_r ?_) | ((with_reducible refine Grew.setCell ?_ ?_ _); rotate_left; (focus (dsimp only; first | omega | (simp only [size_ext, World.size_alloc, Array.size_append]; omega)))) | (with_reducible refine Grew.ext ?_ _ _) | (with_reducible refine Grew.drewN ?_ _) | (with_reducible refine Grew.drew ?_)))⟩
end Go.Proofs.Ytcmggfpcbijcjaa
end
section
/-
  Contracts for LacnBelow: the machine's closures, and ask (206) of each.
-/
set_option linter.unusedSimpArgs false
set_option linter.unusedVariables false
open Go Go.RowKit Sedge
namespace Go.Proofs.Ytcmggfpcbijcjaa
def ONE : Nat := 4607182418800017408
theorem isF_one : IsF 4607182418800017408 4607182418800017408 := by decide +kernel
/-- The words asked for. -/
def firstW (n : Nat) (_ : Nat) : Nat := fdiv 4607182418800017408 (fint n)
def unitW (j : Nat) (i : Nat) : Nat := if i = j then 4607182418800017408 else 0
def lastP (n i : Nat) : Nat := fadd 4607182418800017408 (fdiv (fint i) (fint ((n : Int) - 1)))
def lastW (n i : Nat) : Nat := if i % 2 = 1 then lastP n i ^^^ 2 ^ 63 else lastP n i
theorem last_word : ∀ n : Fin 13, ∀ i : Fin 13, 2 ≤ n.val → i.val < n.val → isNan (lastP n.val i.val) = false ∧ isNan (lastP n.val i.val ^^^ 2 ^ 63) = false ∧ lastP n.val i.val ^^^ 2 ^ 63 < 2 ^ 64 := by decide +kernel
theorem isF_not {b x : Nat} (h : IsF b x) (hn : isNan x = false) : b = x := by
  have h1 : isNan b = false := by rw [h.nan]; exact hn
  have := h.2
  rw [canon_not h1] at this
  exact this
theorem fint_isF {z : Int} (hz : z.natAbs < 2 ^ 53) : IsF (floatOfInt .f64 z) (fint z) := ⟨(fint_int hz).1, canon_not (fin_notnan (fint_int hz).2.1)⟩
set_option maxRecDepth 100000 in
theorem cl207 (n p q : Nat) (hn : n ≤ 12) (i : Nat) (E : Nat) (va sa : Option Addr) (vn vc sn sc : Nat) (st j c : Int) (w : World) (hq : Box w q #[.pointer (some ⟨p, 0, none⟩)]) (hp : Box w p #[.int .i64 n, .int .i64 st, .float .f64 E, .slice va vn vc, .slice sa sn sc, .int .i64 j, .int .i64 c]) :
    Calls Try.prog 207 #[.int .i64 i, .pointer (some ⟨q, 0, none⟩)] w (fun e w2 => ∃ r, e = .returned (.float .f64 r) ∧ IsF r (firstW n i) ∧ ∃ o n, w2 = ext w o n) := by
  have tq := hq.cell
  have lq := hq.lt
  have tp := hp.cell
  have lp := hp.lt
  have h1 := isF_one
  have h2 : IsF (floatOfInt .f64 (n : Int)) (fint n) := fint_isF (by omega)
  clear hq hp
  go_enter Try.func207, Try.ntmps207
  go_wp2_with ((with_reducible refine upon_id ?_); refine upon_fop rfl (by assumption) (by assumption) ?_; intro rr nn hr)
  go_ret
  exact ⟨rr, rfl, hr, by (show Grew _ _; (try simp only [← Array.append_assoc]); repeat (first | (with_reducible exact Grew.same_o) | (with_reducible exact Grew.refl _) | (with_reducible assumption) | (with_reducible refine Grew.alloc ?_ _) | (with_reducible refine Grew.app_r ?_) | ((with_reducible refine Grew.setCell ?_ ?_ _); rotate_left; (focus (dsimp only; first | omega | (simp only [size_ext, World.size_alloc, Array.size_append]; omega)))) | (with_reducible refine Grew.ext ?_ _ _) | (with_reducible refine Grew.drewN ?_ _) | (with_reducible refine Grew.drew ?_)))⟩
set_option maxRecDepth 100000 in
theorem cl220 (n p q : Nat) (i : Nat) (L : List Nat) (hi : i < L.length) (E : Nat) (va : Option Addr) (vn vc : Nat) (s : Value) (st j c : Int) (w : World) (hq : Box w q #[.pointer (some ⟨p, 0, none⟩)]) (hp : Box w p #[.int .i64 n, .int .i64 st, .float .f64 E, .slice va vn vc, s, .int .i64 j, .int .i64 c]) (hs : FS w s L) :
    Calls Try.prog 220 #[.int .i64 i, .pointer (some ⟨q, 0, none⟩)] w (fun e w2 => ∃ r, e = .returned (.float .f64 r) ∧ IsF r (L.getD i 0) ∧ ∃ o n, w2 = ext w o n) := by
  obtain ⟨sa, sc, rfl⟩ := hs.shape
  have hll := hs.len
  obtain ⟨bs, os, rfl, hbs, hc⟩ := hs.at.2 (by omega)
  obtain ⟨b, hb, hx⟩ := hc i hi
  have tq := hq.cell
  have lq := hq.lt
  have tp := hp.cell
  have lp := hp.lt
  clear hq hp hc hs
  go_enter Try.func220, Try.ntmps220
  go_wp2
  go_ret
  exact ⟨b, rfl, hx, by (show Grew _ _; (try simp only [← Array.append_assoc]); repeat (first | (with_reducible exact Grew.same_o) | (with_reducible exact Grew.refl _) | (with_reducible assumption) | (with_reducible refine Grew.alloc ?_ _) | (with_reducible refine Grew.app_r ?_) | ((with_reducible refine Grew.setCell ?_ ?_ _); rotate_left; (focus (dsimp only; first | omega | (simp only [size_ext, World.size_alloc, Array.size_append]; omega)))) | (with_reducible refine Grew.ext ?_ _ _) | (with_reducible refine Grew.drewN ?_ _) | (with_reducible refine Grew.drew ?_)))⟩
set_option maxRecDepth 100000 in
theorem cl221 (n p q : Nat) (i j : Nat) (E : Nat) (va sa : Option Addr) (vn vc sn sc : Nat) (st c : Int) (w : World) (hq : Box w q #[.pointer (some ⟨p, 0, none⟩)]) (hp : Box w p #[.int .i64 n, .int .i64 st, .float .f64 E, .slice va vn vc, .slice sa sn sc, .int .i64 j, .int .i64 c]) :
    Calls Try.prog 221 #[.int .i64 i, .pointer (some ⟨q, 0, none⟩)] w (fun e w2 => ∃ r, e = .returned (.float .f64 r) ∧ IsF r (unitW j i) ∧ ∃ o n, w2 = ext w o n) := by
  have tq := hq.cell
  have lq := hq.lt
  have tp := hp.cell
  have lp := hp.lt
  clear hq hp
  by_cases e : i = j
  · have d : ((i : Int) == (j : Int)) = true := by simp; omega
    go_enter Try.func221, Try.ntmps221
    go_wp2
    go_ret
    exact ⟨_, rfl, by unfold unitW; rw [if_pos e]; exact isF_one, by (show Grew _ _; (try simp only [← Array.append_assoc]); repeat (first | (with_reducible exact Grew.same_o) | (with_reducible exact Grew.refl _) | (with_reducible assumption) | (with_reducible refine Grew.alloc ?_ _) | (with_reducible refine Grew.app_r ?_) | ((with_reducible refine Grew.setCell ?_ ?_ _); rotate_left; (focus (dsimp only; first | omega | (simp only [size_ext, World.size_alloc, Array.size_append]; omega)))) | (with_reducible refine Grew.ext ?_ _ _) | (with_reducible refine Grew.drewN ?_ _) | (with_reducible refine Grew.drew ?_)))⟩
  · have d : ((i : Int) == (j : Int)) = false := by simp; omega
    go_enter Try.func221, Try.ntmps221
    go_wp2
    go_ret
    exact ⟨_, rfl, by unfold unitW; rw [if_neg e]; exact isF_zero, by (show Grew _ _; (try simp only [← Array.append_assoc]); repeat (first | (with_reducible exact Grew.same_o) | (with_reducible exact Grew.refl _) | (with_reducible assumption) | (with_reducible refine Grew.alloc ?_ _) | (with_reducible refine Grew.app_r ?_) | ((with_reducible refine Grew.setCell ?_ ?_ _); rotate_left; (focus (dsimp only; first | omega | (simp only [size_ext, World.size_alloc, Array.size_append]; omega)))) | (with_reducible refine Grew.ext ?_ _ _) | (with_reducible refine Grew.drewN ?_ _) | (with_reducible refine Grew.drew ?_)))⟩
set_option maxRecDepth 100000 in
theorem cl222 (n p q : Nat) (hn : 2 ≤ n) (hn2 : n ≤ 12) (i : Nat) (hi : i < n) (E : Nat) (va sa : Option Addr) (vn vc sn sc : Nat) (st j c : Int) (w : World) (hq : Box w q #[.pointer (some ⟨p, 0, none⟩)]) (hp : Box w p #[.int .i64 n, .int .i64 st, .float .f64 E, .slice va vn vc, .slice sa sn sc, .int .i64 j, .int .i64 c]) :
    Calls Try.prog 222 #[.int .i64 i, .pointer (some ⟨q, 0, none⟩)] w (fun e w2 => ∃ r, e = .returned (.float .f64 r) ∧ IsF r (lastW n i) ∧ ∃ o n, w2 = ext w o n) := by
  obtain ⟨k1, k2, k3⟩ := last_word ⟨n, by omega⟩ ⟨i, by omega⟩ hn hi
  simp only at k1 k2 k3
  have tq := hq.cell
  have lq := hq.lt
  have tp := hp.cell
  have lp := hp.lt
  have h1 := isF_one
  have h2 : IsF (floatOfInt .f64 (i : Int)) (fint i) := fint_isF (by omega)
  have h3 : IsF (floatOfInt .f64 ((n : Int) - 1)) (fint ((n : Int) - 1)) := fint_isF (by omega)
  have hneg : ∀ b, Op.unary .neg (.float .f64 b) = pure (.float .f64 (Op.negFloat .f64 b)) := fun _ => rfl
  clear hq hp
  by_cases e : i % 2 = 1
  · have d : ((i : Int) % 2 == 1) = true := by simp; omega
    go_enter Try.func222, Try.ntmps222
    go_wp2_with ((with_reducible refine upon_id ?_); refine upon_fop rfl (by assumption) (by assumption) ?_; intro rr nn hr)
    go_ret
    have hb := isF_not (x := lastP n i) hr k1
    refine ⟨_, rfl, ?_, by (show Grew _ _; (try simp only [← Array.append_assoc]); repeat (first | (with_reducible exact Grew.same_o) | (with_reducible exact Grew.refl _) | (with_reducible assumption) | (with_reducible refine Grew.alloc ?_ _) | (with_reducible refine Grew.app_r ?_) | ((with_reducible refine Grew.setCell ?_ ?_ _); rotate_left; (focus (dsimp only; first | omega | (simp only [size_ext, World.size_alloc, Array.size_append]; omega)))) | (with_reducible refine Grew.ext ?_ _ _) | (with_reducible refine Grew.drewN ?_ _) | (with_reducible refine Grew.drew ?_)))⟩
    rw [hb]
    unfold lastW
    rw [if_pos e]
    exact ⟨k3, canon_not k2⟩
  · have d : ((i : Int) % 2 == 1) = false := by simp; omega
    go_enter Try.func222, Try.ntmps222
    go_wp2_with ((with_reducible refine upon_id ?_); refine upon_fop rfl (by assumption) (by assumption) ?_; intro rr nn hr)
    go_ret
    refine ⟨_, rfl, ?_, by (show Grew _ _; (try simp only [← Array.append_assoc]); repeat (first | (with_reducible exact Grew.same_o) | (with_reducible exact Grew.refl _) | (with_reducible assumption) | (with_reducible refine Grew.alloc ?_ _) | (with_reducible refine Grew.app_r ?_) | ((with_reducible refine Grew.setCell ?_ ?_ _); rotate_left; (focus (dsimp only; first | omega | (simp only [size_ext, World.size_alloc, Array.size_append]; omega)))) | (with_reducible refine Grew.ext ?_ _ _) | (with_reducible refine Grew.drewN ?_ _) | (with_reducible refine Grew.drew ?_)))⟩
    unfold lastW
    rw [if_neg e]
    exact hr
set_option maxRecDepth 100000 in
set_option maxHeartbeats 2000000 in
theorem ask_207 (n p q : Nat) (h1 : 1 ≤ n) (h2 : n ≤ 12) (E : Nat) (va sa : Option Addr) (vn vc sn sc : Nat) (st0 st kd j c : Int) (F : Nat → Nat) (w : World) (hp : Box w p #[.int .i64 n, .int .i64 st0, .float .f64 E, .slice va vn vc, .slice sa sn sc, .int .i64 j, .int .i64 c])
    (hcl : ∀ (i : Nat) (w' : World), i < n → But w [p] w' → Box w' p #[.int .i64 n, .int .i64 st, .float .f64 E, .slice va vn vc, .slice sa sn sc, .int .i64 j, .int .i64 c] → Calls Try.prog 207 #[.int .i64 i, .pointer (some ⟨q, 0, none⟩)] w' (fun e w2 => ∃ r, e = .returned (.float .f64 r) ∧ IsF r (F i) ∧ ∃ o n, w2 = ext w' o n)) :
    Calls Try.prog 206 #[.pointer (some ⟨p, 0, none⟩), .int .i64 st, .int .i64 kd, .func (.func 207) #[] #[.pointer (some ⟨q, 0, none⟩)]] w (fun e w' => ∃ g, e = .returned (.tuple #[.slice (some ⟨g, 0, none⟩) n n, .int .i64 kd]) ∧ w.heap.size ≤ g ∧ FW w' g ((List.range n).map F) ∧ But w [p] w' ∧ Box w' p #[.int .i64 n, .int .i64 st, .float .f64 E, .slice va vn vc, .slice sa sn sc, .int .i64 j, .int .i64 c]) := by
  have tp := hp.cell
  have fp := hp.frozen
  have lp := hp.lt
  go_enter Try.func206, Try.ntmps206
  go_upto_region 2 with fail
  refine name_any (fun W hW => ?_)
  have BW : But w [p] W := by rw [← hW]; exact (But.refl w [p]).setCell (.inl (by simp)) _
  have PW : Box W p #[.int .i64 n, .int .i64 st, .float .f64 E, .slice va vn vc, .slice sa sn sc, .int .i64 j, .int .i64 c] := by rw [← hW, hp.setCell_eq]; exact hp.upd_self _
  clear hW hp tp fp
  have tp := PW.cell
  have lpW := PW.lt
  have zW := BW.size
  go_upto_region 3 with (at_make; refine make_f (L := (n : Int)) finfo (Grew.refl W) _ _ rfl rfl n rfl rfl rfl (by omega) ?_; intro oo nn g hg ho; have hF := ho.made)
  refine name_any (fun V hV => ?_)
  have gV : Grew W V := by rw [← hV]; (show Grew _ _; (try simp only [← Array.append_assoc]); repeat (first | (with_reducible exact Grew.same_o) | (with_reducible exact Grew.refl _) | (with_reducible assumption) | (with_reducible refine Grew.alloc ?_ _) | (with_reducible refine Grew.app_r ?_) | ((with_reducible refine Grew.setCell ?_ ?_ _); rotate_left; (focus (dsimp only; first | omega | (simp only [size_ext, World.size_alloc, Array.size_append]; omega)))) | (with_reducible refine Grew.ext ?_ _ _) | (with_reducible refine Grew.drewN ?_ _) | (with_reducible refine Grew.drew ?_)))
  have F0 : FW V g (List.replicate n 0) := by rw [← hV]; exact hF.grew (by (show Grew _ _; (try simp only [← Array.append_assoc]); repeat (first | (with_reducible exact Grew.same_o) | (with_reducible exact Grew.refl _) | (with_reducible assumption) | (with_reducible refine Grew.alloc ?_ _) | (with_reducible refine Grew.app_r ?_) | ((with_reducible refine Grew.setCell ?_ ?_ _); rotate_left; (focus (dsimp only; first | omega | (simp only [size_ext, World.size_alloc, Array.size_append]; omega)))) | (with_reducible refine Grew.ext ?_ _ _) | (with_reducible refine Grew.drewN ?_ _) | (with_reducible refine Grew.drew ?_))))
  have PV := PW.grew gV
  have BV := BW.grew gV
  have ngp : g ≠ p := by omega
  have zg : w.heap.size ≤ g := by omega
  clear hV hF ho hg PW BW tp lpW gV
  go_wp2
  go_loopw [23] (fun c1 wr => ∃ (i : Nat) (L : List Nat), i ≤ n ∧ c1 = .int .i64 i ∧ But V [g] wr ∧ FW wr g L ∧ L.length = n ∧ ∀ k, k < i → L.getD k 0 = F k) (fun c1 _ => n - (intOf c1).toNat)
  case atStart => exact ⟨0, _, Nat.zero_le _, rfl, But.refl _ _, F0, by simp, fun k hk => by omega⟩
  case round =>
    clear F0
    obtain ⟨i, L, hi, rfl, hB, FL, eL, hL⟩ := hrel
    have PR := Box.but2 PV hB (by simp; omega)
    have BR : But w [p] wr := BV.trans hB (by intro b hb; simp at hb ⊢; omega)
    by_cases hlt : i < n
    · have HL := hid hL
      clear hL
      go_wp2_with (first | (go_at_call 207; ((with_reducible refine (hcl i _ hlt BR PR).mono ?_); rintro e w1 ⟨r, rfl, hr, hw1⟩; (have F1 := FL.grew hw1); (obtain ⟨b0, hb0, hx0⟩ := F1.get (i := i) (by omega)); (have fz := F1.notFrozen); (have lg1 := F1.lt); clear hx0)))
      go_roundw
      case rel =>
        refine ⟨i + 1, L.set i (F i), hlt, by go_num, (hB.grew hw1).setCell (.inl (by simp)) _, F1.setc hr, by rw [List.length_set]; exact eL, fun k hk => ?_⟩
        by_cases e : i = k
        · subst e; rw [List.getD_eq_getElem?_getD, List.getElem?_set_self (by omega)]; rfl
        · rw [List.getD_eq_getElem?_getD, List.getElem?_set_ne e, ← List.getD_eq_getElem?_getD]
          exact HL.out k (by omega)
      case measure => simp [intOf]; omega
    · have e : i = n := by omega
      subst e
      have eF : L = (List.range i).map F := by
        apply List.ext_getElem?
        intro k
        by_cases hk : k < i
        · have := hL k hk
          rw [List.getD_eq_getElem?_getD, List.getElem?_eq_getElem (by omega)] at this
          rw [List.getElem?_eq_getElem (by omega), List.getElem?_map, List.getElem?_range hk]
          simpa using this
        · rw [List.getElem?_eq_none (by omega), List.getElem?_eq_none (by simp; omega)]
      clear hL
      go_wp2
      refine bodyPost_ret (v := .tuple #[.slice (some ⟨g, 0, none⟩) i i, .int .i64 kd]) (by simp [results, Try.results206, go_sem, *]) rfl ?_
      rw [← eF]
      exact ⟨g, rfl, zg, FL.grew (by (show Grew _ _; (try simp only [← Array.append_assoc]); repeat (first | (with_reducible exact Grew.same_o) | (with_reducible exact Grew.refl _) | (with_reducible assumption) | (with_reducible refine Grew.alloc ?_ _) | (with_reducible refine Grew.app_r ?_) | ((with_reducible refine Grew.setCell ?_ ?_ _); rotate_left; (focus (dsimp only; first | omega | (simp only [size_ext, World.size_alloc, Array.size_append]; omega)))) | (with_reducible refine Grew.ext ?_ _ _) | (with_reducible refine Grew.drewN ?_ _) | (with_reducible refine Grew.drew ?_)))), BR.grew (by (show Grew _ _; (try simp only [← Array.append_assoc]); repeat (first | (with_reducible exact Grew.same_o) | (with_reducible exact Grew.refl _) | (with_reducible assumption) | (with_reducible refine Grew.alloc ?_ _) | (with_reducible refine Grew.app_r ?_) | ((with_reducible refine Grew.setCell ?_ ?_ _); rotate_left; (focus (dsimp only; first | omega | (simp only [size_ext, World.size_alloc, Array.size_append]; omega)))) | (with_reducible refine Grew.ext ?_ _ _) | (with_reducible refine Grew.drewN ?_ _) | (with_reducible refine Grew.drew ?_)))), PR.grew (by (show Grew _ _; (try simp only [← Array.append_assoc]); repeat (first | (with_reducible exact Grew.same_o) | (with_reducible exact Grew.refl _) | (with_reducible assumption) | (with_reducible refine Grew.alloc ?_ _) | (with_reducible refine Grew.app_r ?_) | ((with_reducible refine Grew.setCell ?_ ?_ _); rotate_left; (focus (dsimp only; first | omega | (simp only [size_ext, World.size_alloc, Array.size_append]; omega)))) | (with_reducible refine Grew.ext ?_ _ _) | (with_reducible refine Grew.drewN ?_ _) | (with_reducible refine Grew.drew ?_))))⟩
set_option maxRecDepth 100000 in
set_option maxHeartbeats 2000000 in
theorem ask_220 (n p q : Nat) (h1 : 1 ≤ n) (h2 : n ≤ 12) (E : Nat) (va sa : Option Addr) (vn vc sn sc : Nat) (st0 st kd j c : Int) (F : Nat → Nat) (w : World) (hp : Box w p #[.int .i64 n, .int .i64 st0, .float .f64 E, .slice va vn vc, .slice sa sn sc, .int .i64 j, .int .i64 c])
    (hcl : ∀ (i : Nat) (w' : World), i < n → But w [p] w' → Box w' p #[.int .i64 n, .int .i64 st, .float .f64 E, .slice va vn vc, .slice sa sn sc, .int .i64 j, .int .i64 c] → Calls Try.prog 220 #[.int .i64 i, .pointer (some ⟨q, 0, none⟩)] w' (fun e w2 => ∃ r, e = .returned (.float .f64 r) ∧ IsF r (F i) ∧ ∃ o n, w2 = ext w' o n)) :
    Calls Try.prog 206 #[.pointer (some ⟨p, 0, none⟩), .int .i64 st, .int .i64 kd, .func (.func 220) #[] #[.pointer (some ⟨q, 0, none⟩)]] w (fun e w' => ∃ g, e = .returned (.tuple #[.slice (some ⟨g, 0, none⟩) n n, .int .i64 kd]) ∧ w.heap.size ≤ g ∧ FW w' g ((List.range n).map F) ∧ But w [p] w' ∧ Box w' p #[.int .i64 n, .int .i64 st, .float .f64 E, .slice va vn vc, .slice sa sn sc, .int .i64 j, .int .i64 c]) := by
  have tp := hp.cell
  have fp := hp.frozen
  have lp := hp.lt
  go_enter Try.func206, Try.ntmps206
  go_upto_region 2 with fail
  refine name_any (fun W hW => ?_)
  have BW : But w [p] W := by rw [← hW]; exact (But.refl w [p]).setCell (.inl (by simp)) _
  have PW : Box W p #[.int .i64 n, .int .i64 st, .float .f64 E, .slice va vn vc, .slice sa sn sc, .int .i64 j, .int .i64 c] := by rw [← hW, hp.setCell_eq]; exact hp.upd_self _
  clear hW hp tp fp
  have tp := PW.cell
  have lpW := PW.lt
  have zW := BW.size
  go_upto_region 3 with (at_make; refine make_f (L := (n : Int)) finfo (Grew.refl W) _ _ rfl rfl n rfl rfl rfl (by omega) ?_; intro oo nn g hg ho; have hF := ho.made)
  refine name_any (fun V hV => ?_)
  have gV : Grew W V := by rw [← hV]; (show Grew _ _; (try simp only [← Array.append_assoc]); repeat (first | (with_reducible exact Grew.same_o) | (with_reducible exact Grew.refl _) | (with_reducible assumption) | (with_reducible refine Grew.alloc ?_ _) | (with_reducible refine Grew.app_r ?_) | ((with_reducible refine Grew.setCell ?_ ?_ _); rotate_left; (focus (dsimp only; first | omega | (simp only [size_ext, World.size_alloc, Array.size_append]; omega)))) | (with_reducible refine Grew.ext ?_ _ _) | (with_reducible refine Grew.drewN ?_ _) | (with_reducible refine Grew.drew ?_)))
  have F0 : FW V g (List.replicate n 0) := by rw [← hV]; exact hF.grew (by (show Grew _ _; (try simp only [← Array.append_assoc]); repeat (first | (with_reducible exact Grew.same_o) | (with_reducible exact Grew.refl _) | (with_reducible assumption) | (with_reducible refine Grew.alloc ?_ _) | (with_reducible refine Grew.app_r ?_) | ((with_reducible refine Grew.setCell ?_ ?_ _); rotate_left; (focus (dsimp only; first | omega | (simp only [size_ext, World.size_alloc, Array.size_append]; omega)))) | (with_reducible refine Grew.ext ?_ _ _) | (with_reducible refine Grew.drewN ?_ _) | (with_reducible refine Grew.drew ?_))))
  have PV := PW.grew gV
  have BV := BW.grew gV
  have ngp : g ≠ p := by omega
  have zg : w.heap.size ≤ g := by omega
  clear hV hF ho hg PW BW tp lpW gV
  go_wp2
  go_loopw [23] (fun c1 wr => ∃ (i : Nat) (L : List Nat), i ≤ n ∧ c1 = .int .i64 i ∧ But V [g] wr ∧ FW wr g L ∧ L.length = n ∧ ∀ k, k < i → L.getD k 0 = F k) (fun c1 _ => n - (intOf c1).toNat)
  case atStart => exact ⟨0, _, Nat.zero_le _, rfl, But.refl _ _, F0, by simp, fun k hk => by omega⟩
  case round =>
    clear F0
    obtain ⟨i, L, hi, rfl, hB, FL, eL, hL⟩ := hrel
    have PR := Box.but2 PV hB (by simp; omega)
    have BR : But w [p] wr := BV.trans hB (by intro b hb; simp at hb ⊢; omega)
    by_cases hlt : i < n
    · have HL := hid hL
      clear hL
      go_wp2_with (first | (go_at_call 220; ((with_reducible refine (hcl i _ hlt BR PR).mono ?_); rintro e w1 ⟨r, rfl, hr, hw1⟩; (have F1 := FL.grew hw1); (obtain ⟨b0, hb0, hx0⟩ := F1.get (i := i) (by omega)); (have fz := F1.notFrozen); (have lg1 := F1.lt); clear hx0)))
      go_roundw
      case rel =>
        refine ⟨i + 1, L.set i (F i), hlt, by go_num, (hB.grew hw1).setCell (.inl (by simp)) _, F1.setc hr, by rw [List.length_set]; exact eL, fun k hk => ?_⟩
        by_cases e : i = k
        · subst e; rw [List.getD_eq_getElem?_getD, List.getElem?_set_self (by omega)]; rfl
        · rw [List.getD_eq_getElem?_getD, List.getElem?_set_ne e, ← List.getD_eq_getElem?_getD]
          exact HL.out k (by omega)
      case measure => simp [intOf]; omega
    · have e : i = n := by omega
      subst e
      have eF : L = (List.range i).map F := by
        apply List.ext_getElem?
        intro k
        by_cases hk : k < i
        · have := hL k hk
          rw [List.getD_eq_getElem?_getD, List.getElem?_eq_getElem (by omega)] at this
          rw [List.getElem?_eq_getElem (by omega), List.getElem?_map, List.getElem?_range hk]
          simpa using this
        · rw [List.getElem?_eq_none (by omega), List.getElem?_eq_none (by simp; omega)]
      clear hL
      go_wp2
      refine bodyPost_ret (v := .tuple #[.slice (some ⟨g, 0, none⟩) i i, .int .i64 kd]) (by simp [results, Try.results206, go_sem, *]) rfl ?_
      rw [← eF]
      exact ⟨g, rfl, zg, FL.grew (by (show Grew _ _; (try simp only [← Array.append_assoc]); repeat (first | (with_reducible exact Grew.same_o) | (with_reducible exact Grew.refl _) | (with_reducible assumption) | (with_reducible refine Grew.alloc ?_ _) | (with_reducible refine Grew.app_r ?_) | ((with_reducible refine Grew.setCell ?_ ?_ _); rotate_left; (focus (dsimp only; first | omega | (simp only [size_ext, World.size_alloc, Array.size_append]; omega)))) | (with_reducible refine Grew.ext ?_ _ _) | (with_reducible refine Grew.drewN ?_ _) | (with_reducible refine Grew.drew ?_)))), BR.grew (by (show Grew _ _; (try simp only [← Array.append_assoc]); repeat (first | (with_reducible exact Grew.same_o) | (with_reducible exact Grew.refl _) | (with_reducible assumption) | (with_reducible refine Grew.alloc ?_ _) | (with_reducible refine Grew.app_r ?_) | ((with_reducible refine Grew.setCell ?_ ?_ _); rotate_left; (focus (dsimp only; first | omega | (simp only [size_ext, World.size_alloc, Array.size_append]; omega)))) | (with_reducible refine Grew.ext ?_ _ _) | (with_reducible refine Grew.drewN ?_ _) | (with_reducible refine Grew.drew ?_)))), PR.grew (by (show Grew _ _; (try simp only [← Array.append_assoc]); repeat (first | (with_reducible exact Grew.same_o) | (with_reducible exact Grew.refl _) | (with_reducible assumption) | (with_reducible refine Grew.alloc ?_ _) | (with_reducible refine Grew.app_r ?_) | ((with_reducible refine Grew.setCell ?_ ?_ _); rotate_left; (focus (dsimp only; first | omega | (simp only [size_ext, World.size_alloc, Array.size_append]; omega)))) | (with_reducible refine Grew.ext ?_ _ _) | (with_reducible refine Grew.drewN ?_ _) | (with_reducible refine Grew.drew ?_))))⟩
set_option maxRecDepth 100000 in
set_option maxHeartbeats 2000000 in
theorem ask_221 (n p q : Nat) (h1 : 1 ≤ n) (h2 : n ≤ 12) (E : Nat) (va sa : Option Addr) (vn vc sn sc : Nat) (st0 st kd j c : Int) (F : Nat → Nat) (w : World) (hp : Box w p #[.int .i64 n, .int .i64 st0, .float .f64 E, .slice va vn vc, .slice sa sn sc, .int .i64 j, .int .i64 c])
    (hcl : ∀ (i : Nat) (w' : World), i < n → But w [p] w' → Box w' p #[.int .i64 n, .int .i64 st, .float .f64 E, .slice va vn vc, .slice sa sn sc, .int .i64 j, .int .i64 c] → Calls Try.prog 221 #[.int .i64 i, .pointer (some ⟨q, 0, none⟩)] w' (fun e w2 => ∃ r, e = .returned (.float .f64 r) ∧ IsF r (F i) ∧ ∃ o n, w2 = ext w' o n)) :
    Calls Try.prog 206 #[.pointer (some ⟨p, 0, none⟩), .int .i64 st, .int .i64 kd, .func (.func 221) #[] #[.pointer (some ⟨q, 0, none⟩)]] w (fun e w' => ∃ g, e = .returned (.tuple #[.slice (some ⟨g, 0, none⟩) n n, .int .i64 kd]) ∧ w.heap.size ≤ g ∧ FW w' g ((List.range n).map F) ∧ But w [p] w' ∧ Box w' p #[.int .i64 n, .int .i64 st, .float .f64 E, .slice va vn vc, .slice sa sn sc, .int .i64 j, .int .i64 c]) := by
  have tp := hp.cell
  have fp := hp.frozen
  have lp := hp.lt
  go_enter Try.func206, Try.ntmps206
  go_upto_region 2 with fail
  refine name_any (fun W hW => ?_)
  have BW : But w [p] W := by rw [← hW]; exact (But.refl w [p]).setCell (.inl (by simp)) _
  have PW : Box W p #[.int .i64 n, .int .i64 st, .float .f64 E, .slice va vn vc, .slice sa sn sc, .int .i64 j, .int .i64 c] := by rw [← hW, hp.setCell_eq]; exact hp.upd_self _
  clear hW hp tp fp
  have tp := PW.cell
  have lpW := PW.lt
  have zW := BW.size
  go_upto_region 3 with (at_make; refine make_f (L := (n : Int)) finfo (Grew.refl W) _ _ rfl rfl n rfl rfl rfl (by omega) ?_; intro oo nn g hg ho; have hF := ho.made)
  refine name_any (fun V hV => ?_)
  have gV : Grew W V := by rw [← hV]; (show Grew _ _; (try simp only [← Array.append_assoc]); repeat (first | (with_reducible exact Grew.same_o) | (with_reducible exact Grew.refl _) | (with_reducible assumption) | (with_reducible refine Grew.alloc ?_ _) | (with_reducible refine Grew.app_r ?_) | ((with_reducible refine Grew.setCell ?_ ?_ _); rotate_left; (focus (dsimp only; first | omega | (simp only [size_ext, World.size_alloc, Array.size_append]; omega)))) | (with_reducible refine Grew.ext ?_ _ _) | (with_reducible refine Grew.drewN ?_ _) | (with_reducible refine Grew.drew ?_)))
  have F0 : FW V g (List.replicate n 0) := by rw [← hV]; exact hF.grew (by (show Grew _ _; (try simp only [← Array.append_assoc]); repeat (first | (with_reducible exact Grew.same_o) | (with_reducible exact Grew.refl _) | (with_reducible assumption) | (with_reducible refine Grew.alloc ?_ _) | (with_reducible refine Grew.app_r ?_) | ((with_reducible refine Grew.setCell ?_ ?_ _); rotate_left; (focus (dsimp only; first | omega | (simp only [size_ext, World.size_alloc, Array.size_append]; omega)))) | (with_reducible refine Grew.ext ?_ _ _) | (with_reducible refine Grew.drewN ?_ _) | (with_reducible refine Grew.drew ?_))))
  have PV := PW.grew gV
  have BV := BW.grew gV
  have ngp : g ≠ p := by omega
  have zg : w.heap.size ≤ g := by omega
  clear hV hF ho hg PW BW tp lpW gV
  go_wp2
  go_loopw [23] (fun c1 wr => ∃ (i : Nat) (L : List Nat), i ≤ n ∧ c1 = .int .i64 i ∧ But V [g] wr ∧ FW wr g L ∧ L.length = n ∧ ∀ k, k < i → L.getD k 0 = F k) (fun c1 _ => n - (intOf c1).toNat)
  case atStart => exact ⟨0, _, Nat.zero_le _, rfl, But.refl _ _, F0, by simp, fun k hk => by omega⟩
  case round =>
    clear F0
    obtain ⟨i, L, hi, rfl, hB, FL, eL, hL⟩ := hrel
    have PR := Box.but2 PV hB (by simp; omega)
    have BR : But w [p] wr := BV.trans hB (by intro b hb; simp at hb ⊢; omega)
    by_cases hlt : i < n
    · have HL := hid hL
      clear hL
      go_wp2_with (first | (go_at_call 221; ((with_reducible refine (hcl i _ hlt BR PR).mono ?_); rintro e w1 ⟨r, rfl, hr, hw1⟩; (have F1 := FL.grew hw1); (obtain ⟨b0, hb0, hx0⟩ := F1.get (i := i) (by omega)); (have fz := F1.notFrozen); (have lg1 := F1.lt); clear hx0)))
      go_roundw
      case rel =>
        refine ⟨i + 1, L.set i (F i), hlt, by go_num, (hB.grew hw1).setCell (.inl (by simp)) _, F1.setc hr, by rw [List.length_set]; exact eL, fun k hk => ?_⟩
        by_cases e : i = k
        · subst e; rw [List.getD_eq_getElem?_getD, List.getElem?_set_self (by omega)]; rfl
        · rw [List.getD_eq_getElem?_getD, List.getElem?_set_ne e, ← List.getD_eq_getElem?_getD]
          exact HL.out k (by omega)
      case measure => simp [intOf]; omega
    · have e : i = n := by omega
      subst e
      have eF : L = (List.range i).map F := by
        apply List.ext_getElem?
        intro k
        by_cases hk : k < i
        · have := hL k hk
          rw [List.getD_eq_getElem?_getD, List.getElem?_eq_getElem (by omega)] at this
          rw [List.getElem?_eq_getElem (by omega), List.getElem?_map, List.getElem?_range hk]
          simpa using this
        · rw [List.getElem?_eq_none (by omega), List.getElem?_eq_none (by simp; omega)]
      clear hL
      go_wp2
      refine bodyPost_ret (v := .tuple #[.slice (some ⟨g, 0, none⟩) i i, .int .i64 kd]) (by simp [results, Try.results206, go_sem, *]) rfl ?_
      rw [← eF]
      exact ⟨g, rfl, zg, FL.grew (by (show Grew _ _; (try simp only [← Array.append_assoc]); repeat (first | (with_reducible exact Grew.same_o) | (with_reducible exact Grew.refl _) | (with_reducible assumption) | (with_reducible refine Grew.alloc ?_ _) | (with_reducible refine Grew.app_r ?_) | ((with_reducible refine Grew.setCell ?_ ?_ _); rotate_left; (focus (dsimp only; first | omega | (simp only [size_ext, World.size_alloc, Array.size_append]; omega)))) | (with_reducible refine Grew.ext ?_ _ _) | (with_reducible refine Grew.drewN ?_ _) | (with_reducible refine Grew.drew ?_)))), BR.grew (by (show Grew _ _; (try simp only [← Array.append_assoc]); repeat (first | (with_reducible exact Grew.same_o) | (with_reducible exact Grew.refl _) | (with_reducible assumption) | (with_reducible refine Grew.alloc ?_ _) | (with_reducible refine Grew.app_r ?_) | ((with_reducible refine Grew.setCell ?_ ?_ _); rotate_left; (focus (dsimp only; first | omega | (simp only [size_ext, World.size_alloc, Array.size_append]; omega)))) | (with_reducible refine Grew.ext ?_ _ _) | (with_reducible refine Grew.drewN ?_ _) | (with_reducible refine Grew.drew ?_)))), PR.grew (by (show Grew _ _; (try simp only [← Array.append_assoc]); repeat (first | (with_reducible exact Grew.same_o) | (with_reducible exact Grew.refl _) | (with_reducible assumption) | (with_reducible refine Grew.alloc ?_ _) | (with_reducible refine Grew.app_r ?_) | ((with_reducible refine Grew.setCell ?_ ?_ _); rotate_left; (focus (dsimp only; first | omega | (simp only [size_ext, World.size_alloc, Array.size_append]; omega)))) | (with_reducible refine Grew.ext ?_ _ _) | (with_reducible refine Grew.drewN ?_ _) | (with_reducible refine Grew.drew ?_))))⟩
set_option maxRecDepth 100000 in
set_option maxHeartbeats 2000000 in
theorem ask_222 (n p q : Nat) (h1 : 1 ≤ n) (h2 : n ≤ 12) (E : Nat) (va sa : Option Addr) (vn vc sn sc : Nat) (st0 st kd j c : Int) (F : Nat → Nat) (w : World) (hp : Box w p #[.int .i64 n, .int .i64 st0, .float .f64 E, .slice va vn vc, .slice sa sn sc, .int .i64 j, .int .i64 c])
    (hcl : ∀ (i : Nat) (w' : World), i < n → But w [p] w' → Box w' p #[.int .i64 n, .int .i64 st, .float .f64 E, .slice va vn vc, .slice sa sn sc, .int .i64 j, .int .i64 c] → Calls Try.prog 222 #[.int .i64 i, .pointer (some ⟨q, 0, none⟩)] w' (fun e w2 => ∃ r, e = .returned (.float .f64 r) ∧ IsF r (F i) ∧ ∃ o n, w2 = ext w' o n)) :
    Calls Try.prog 206 #[.pointer (some ⟨p, 0, none⟩), .int .i64 st, .int .i64 kd, .func (.func 222) #[] #[.pointer (some ⟨q, 0, none⟩)]] w (fun e w' => ∃ g, e = .returned (.tuple #[.slice (some ⟨g, 0, none⟩) n n, .int .i64 kd]) ∧ w.heap.size ≤ g ∧ FW w' g ((List.range n).map F) ∧ But w [p] w' ∧ Box w' p #[.int .i64 n, .int .i64 st, .float .f64 E, .slice va vn vc, .slice sa sn sc, .int .i64 j, .int .i64 c]) := by
  have tp := hp.cell
  have fp := hp.frozen
  have lp := hp.lt
  go_enter Try.func206, Try.ntmps206
  go_upto_region 2 with fail
  refine name_any (fun W hW => ?_)
  have BW : But w [p] W := by rw [← hW]; exact (But.refl w [p]).setCell (.inl (by simp)) _
  have PW : Box W p #[.int .i64 n, .int .i64 st, .float .f64 E, .slice va vn vc, .slice sa sn sc, .int .i64 j, .int .i64 c] := by rw [← hW, hp.setCell_eq]; exact hp.upd_self _
  clear hW hp tp fp
  have tp := PW.cell
  have lpW := PW.lt
  have zW := BW.size
  go_upto_region 3 with (at_make; refine make_f (L := (n : Int)) finfo (Grew.refl W) _ _ rfl rfl n rfl rfl rfl (by omega) ?_; intro oo nn g hg ho; have hF := ho.made)
  refine name_any (fun V hV => ?_)
  have gV : Grew W V := by rw [← hV]; (show Grew _ _; (try simp only [← Array.append_assoc]); repeat (first | (with_reducible exact Grew.same_o) | (with_reducible exact Grew.refl _) | (with_reducible assumption) | (with_reducible refine Grew.alloc ?_ _) | (with_reducible refine Grew.app_r ?_) | ((with_reducible refine Grew.setCell ?_ ?_ _); rotate_left; (focus (dsimp only; first | omega | (simp only [size_ext, World.size_alloc, Array.size_append]; omega)))) | (with_reducible refine Grew.ext ?_ _ _) | (with_reducible refine Grew.drewN ?_ _) | (with_reducible refine Grew.drew ?_)))
  have F0 : FW V g (List.replicate n 0) := by rw [← hV]; exact hF.grew (by (show Grew _ _; (try simp only [← Array.append_assoc]); repeat (first | (with_reducible exact Grew.same_o) | (with_reducible exact Grew.refl _) | (with_reducible assumption) | (with_reducible refine Grew.alloc ?_ _) | (with_reducible refine Grew.app_r ?_) | ((with_reducible refine Grew.setCell ?_ ?_ _); rotate_left; (focus (dsimp only; first | omega | (simp only [size_ext, World.size_alloc, Array.size_append]; omega)))) | (with_reducible refine Grew.ext ?_ _ _) | (with_reducible refine Grew.drewN ?_ _) | (with_reducible refine Grew.drew ?_))))
  have PV := PW.grew gV
  have BV := BW.grew gV
  have ngp : g ≠ p := by omega
  have zg : w.heap.size ≤ g := by omega
  clear hV hF ho hg PW BW tp lpW gV
  go_wp2
  go_loopw [23] (fun c1 wr => ∃ (i : Nat) (L : List Nat), i ≤ n ∧ c1 = .int .i64 i ∧ But V [g] wr ∧ FW wr g L ∧ L.length = n ∧ ∀ k, k < i → L.getD k 0 = F k) (fun c1 _ => n - (intOf c1).toNat)
  case atStart => exact ⟨0, _, Nat.zero_le _, rfl, But.refl _ _, F0, by simp, fun k hk => by omega⟩
  case round =>
    clear F0
    obtain ⟨i, L, hi, rfl, hB, FL, eL, hL⟩ := hrel
    have PR := Box.but2 PV hB (by simp; omega)
    have BR : But w [p] wr := BV.trans hB (by intro b hb; simp at hb ⊢; omega)
    by_cases hlt : i < n
    · have HL := hid hL
      clear hL
      go_wp2_with (first | (go_at_call 222; ((with_reducible refine (hcl i _ hlt BR PR).mono ?_); rintro e w1 ⟨r, rfl, hr, hw1⟩; (have F1 := FL.grew hw1); (obtain ⟨b0, hb0, hx0⟩ := F1.get (i := i) (by omega)); (have fz := F1.notFrozen); (have lg1 := F1.lt); clear hx0)))
      go_roundw
      case rel =>
        refine ⟨i + 1, L.set i (F i), hlt, by go_num, (hB.grew hw1).setCell (.inl (by simp)) _, F1.setc hr, by rw [List.length_set]; exact eL, fun k hk => ?_⟩
        by_cases e : i = k
        · subst e; rw [List.getD_eq_getElem?_getD, List.getElem?_set_self (by omega)]; rfl
        · rw [List.getD_eq_getElem?_getD, List.getElem?_set_ne e, ← List.getD_eq_getElem?_getD]
          exact HL.out k (by omega)
      case measure => simp [intOf]; omega
    · have e : i = n := by omega
      subst e
      have eF : L = (List.range i).map F := by
        apply List.ext_getElem?
        intro k
        by_cases hk : k < i
        · have := hL k hk
          rw [List.getD_eq_getElem?_getD, List.getElem?_eq_getElem (by omega)] at this
          rw [List.getElem?_eq_getElem (by omega), List.getElem?_map, List.getElem?_range hk]
          simpa using this
        · rw [List.getElem?_eq_none (by omega), List.getElem?_eq_none (by simp; omega)]
      clear hL
      go_wp2
      refine bodyPost_ret (v := .tuple #[.slice (some ⟨g, 0, none⟩) i i, .int .i64 kd]) (by simp [results, Try.results206, go_sem, *]) rfl ?_
      rw [← eF]
      exact ⟨g, rfl, zg, FL.grew (by (show Grew _ _; (try simp only [← Array.append_assoc]); repeat (first | (with_reducible exact Grew.same_o) | (with_reducible exact Grew.refl _) | (with_reducible assumption) | (with_reducible refine Grew.alloc ?_ _) | (with_reducible refine Grew.app_r ?_) | ((with_reducible refine Grew.setCell ?_ ?_ _); rotate_left; (focus (dsimp only; first | omega | (simp only [size_ext, World.size_alloc, Array.size_append]; omega)))) | (with_reducible refine Grew.ext ?_ _ _) | (with_reducible refine Grew.drewN ?_ _) | (with_reducible refine Grew.drew ?_)))), BR.grew (by (show Grew _ _; (try simp only [← Array.append_assoc]); repeat (first | (with_reducible exact Grew.same_o) | (with_reducible exact Grew.refl _) | (with_reducible assumption) | (with_reducible refine Grew.alloc ?_ _) | (with_reducible refine Grew.app_r ?_) | ((with_reducible refine Grew.setCell ?_ ?_ _); rotate_left; (focus (dsimp only; first | omega | (simp only [size_ext, World.size_alloc, Array.size_append]; omega)))) | (with_reducible refine Grew.ext ?_ _ _) | (with_reducible refine Grew.drewN ?_ _) | (with_reducible refine Grew.drew ?_)))), PR.grew (by (show Grew _ _; (try simp only [← Array.append_assoc]); repeat (first | (with_reducible exact Grew.same_o) | (with_reducible exact Grew.refl _) | (with_reducible assumption) | (with_reducible refine Grew.alloc ?_ _) | (with_reducible refine Grew.app_r ?_) | ((with_reducible refine Grew.setCell ?_ ?_ _); rotate_left; (focus (dsimp only; first | omega | (simp only [size_ext, World.size_alloc, Array.size_append]; omega)))) | (with_reducible refine Grew.ext ?_ _ _) | (with_reducible refine Grew.drewN ?_ _) | (with_reducible refine Grew.drew ?_))))⟩
end Go.Proofs.Ytcmggfpcbijcjaa
end
section
/-
  Contracts for LacnBelow: unit (210), final (213), signs (209), better (211) of the machine.
-/
set_option linter.unusedSimpArgs false
set_option linter.unusedVariables false
open Go Go.RowKit Sedge
namespace Go.Proofs.Ytcmggfpcbijcjaa
theorem FS.but1 {w w' : World} {G : List Nat} {v : Value} {L : List Nat} (h : FS w v L) (hn : ∀ k, v.ownBlock = some k → k ∉ G) (hb : But w G w') : FS w' v L := by
  obtain ⟨h1, a, cap, rfl, h2, h3⟩ := h
  refine ⟨h1, a, cap, rfl, h2, fun i hi => ?_⟩
  obtain ⟨blk, o, b, rfl, h4, h5⟩ := h3 i hi
  refine ⟨blk, o, b, rfl, ?_, h5⟩
  rw [hb.cell (World.block_lt_of_cell? w _ h4) (hn blk rfl)]
  exact h4
/-- A list of two numbers lies in no machine. -/
theorem fs_no_box {w : World} {v : Value} {L : List Nat} (h : FS w v L) (hL : 2 ≤ L.length) {p E : Nat} {n st j c : Int} {s1 s2 s3 t1 t2 t3} (hp : Box w p #[.int .i64 n, .int .i64 st, .float .f64 E, .slice s1 s2 s3, .slice t1 t2 t3, .int .i64 j, .int .i64 c]) : ∀ k, v.ownBlock = some k → k ≠ p := by
  obtain ⟨a, cap, rfl⟩ := h.shape
  obtain ⟨blk, o, rfl, _, hc⟩ := h.at.2 (by omega)
  intro k hk
  have : blk = k := by simpa [Value.ownBlock] using hk
  subst this
  intro e
  subst e
  obtain ⟨b0, h0, _⟩ := hc 0 (by omega)
  obtain ⟨b1, h1, _⟩ := hc 1 (by omega)
  rw [hp.cell] at h0 h1
  rcases o with _ | _ | _ | _ | _ | _ | _ | o <;> simp at h0 h1
theorem Box.setC {w : World} {p : Nat} {cs : Array Value} (h : Box w p cs) (i : Nat) (v : Value) : Box (w.setCell ⟨p, i, none⟩ v) p (cs.setIfInBounds i v) := by rw [h.setCell_eq]; exact h.upd_self _
theorem _root_.Sedge.But.setP {V w : World} {p i : Nat} (h : But V [p] w) (v : Value) : But V [p] (w.setCell ⟨p, i, none⟩ v) := h.setCell (a := ⟨p, i, none⟩) (.inl (by simp)) v
theorem list_map {L : List Nat} {n : Nat} (h : L.length = n) : (List.range n).map (fun i => L.getD i 0) = L := by
  apply List.ext_getElem?
  intro k
  rw [List.getElem?_map]
  by_cases hk : k < n
  · rw [List.getElem?_range hk, Option.map_some, List.getD_eq_getElem?_getD, List.getElem?_eq_getElem (by omega)]; rfl
  · rw [List.getElem?_eq_none (by simpa using Nat.le_of_not_lt hk), List.getElem?_eq_none (by omega)]; rfl
/-- The signs of numbers. -/
def sgL (L : List Nat) : List Nat := (List.range L.length).map fun i => sgF (L.getD i 0)
theorem sgL_length (L : List Nat) : (sgL L).length = L.length := by simp [sgL]
theorem vec1_num {L : List Nat} {n i : Nat} : VecM.num ⟨L, 0, n, 1⟩ i = L.getD i 0 := by
  unfold VecM.num VecM.place
  simp only [Int.zero_add, Int.mul_one, Int.toNat_natCast]
theorem vec1_ok {L : List Nat} {n : Nat} (h : L.length = n) (h1 : 1 ≤ n) : VecM.right ⟨L, 0, n, 1⟩ = true := by
  simp [VecM.right, fitsB, h]; omega
theorem sign_ok (n : Nat) (X : Value) (L : List Nat) (w : World) (hX : FS w X L) (hL : L.length = n) (h1 : 1 ≤ n) (h2 : n ≤ 12) : Calls Try.prog 97 #[.agg #[X, .int .i64 0, .int .i64 n, .int .i64 1]] w (fun e w' => ∃ v, e = .returned (.tuple #[v, .int .i64 0]) ∧ FS w' v (sgL L) ∧ ∃ o n, w' = ext w o n) := by
  have h := sign_any ⟨L, 0, n, 1⟩ X w hX (vec1_ok hL h1) (by simp [VecM.wf, I64]; omega) (by show L.length ≤ _; omega)
  refine h.mono fun e w' hh => ?_
  obtain ⟨v, h3, h4, h5⟩ := hh
  refine ⟨v, h3, ?_, h5⟩
  have e1 : sgTo ⟨L, 0, n, 1⟩ n = sgL L := by
    unfold sgTo sgL
    rw [hL]
    exact List.map_congr_left fun i _ => by rw [vec1_num]
  have e2 : (VecM.n ⟨L, 0, n, 1⟩).toNat = n := by show ((n : Int)).toNat = n; omega
  rw [e2, e1] at h4
  exact h4
def mostW (L : List Nat) : Nat := (mostTo ⟨L, 0, (L.length : Int), 1⟩ L.length).toNat
theorem mostTo_nn (x : VecM) : ∀ k, 1 ≤ k → 0 ≤ mostTo x k
  | 0, h => by omega
  | k + 1, _ => by
    unfold mostTo
    by_cases hk : mostTo x k < 0 ∨ fgt (fabs (x.num k)) (fabs (x.num (mostTo x k).toNat)) = true
    · rw [if_pos hk]; omega
    · rw [if_neg hk]
      have : ¬ mostTo x k < 0 := fun h => hk (.inl h)
      omega
theorem mostW_lt {L : List Nat} (h : 1 ≤ L.length) : mostW L < L.length := by
  have h1 := mostTo_range ⟨L, 0, (L.length : Int), 1⟩ L.length
  have h2 := mostTo_nn ⟨L, 0, (L.length : Int), 1⟩ L.length h
  unfold mostW; omega
theorem most_w (n : Nat) (X : Value) (L : List Nat) (w : World) (hX : FS w X L) (hL : L.length = n) (h1 : 1 ≤ n) (h2 : n ≤ 12) : Calls Try.prog 127 #[.agg #[X, .int .i64 0, .int .i64 n, .int .i64 1]] w (fun e w' => e = .returned (.tuple #[.int .i64 (mostW L : Nat), .int .i64 0]) ∧ ∃ o n, w' = ext w o n) := by
  subst hL
  have h := most_ok ⟨L, 0, (L.length : Int), 1⟩ X w hX (by simp [VecM.wf, I64]; omega) (vec1_ok rfl h1)
  have e2 : (VecM.n ⟨L, 0, (L.length : Int), 1⟩).toNat = L.length := by show ((L.length : Int)).toNat = L.length; omega
  rw [e2] at h
  have h3 := mostTo_nn ⟨L, 0, (L.length : Int), 1⟩ L.length h1
  have e3 : ((mostW L : Nat) : Int) = mostTo ⟨L, 0, (L.length : Int), 1⟩ L.length := by unfold mostW; omega
  rw [e3]; exact h
set_option maxRecDepth 100000 in
set_option maxHeartbeats 1000000 in
theorem unit_ok (n p : Nat) (h1 : 1 ≤ n) (h2 : n ≤ 12) (E : Nat) (va sa : Option Addr) (vn vc sn sc : Nat) (st0 c : Int) (j : Nat) (w : World) (hp : Box w p #[.int .i64 n, .int .i64 st0, .float .f64 E, .slice va vn vc, .slice sa sn sc, .int .i64 j, .int .i64 c]) :
    Calls Try.prog 210 #[.pointer (some ⟨p, 0, none⟩)] w (fun e w' => ∃ g, e = .returned (.tuple #[.slice (some ⟨g, 0, none⟩) n n, .int .i64 1]) ∧ w.heap.size ≤ g ∧ FW w' g ((List.range n).map (unitW j)) ∧ But w [p] w' ∧ Box w' p #[.int .i64 n, .int .i64 3, .float .f64 E, .slice va vn vc, .slice sa sn sc, .int .i64 j, .int .i64 c]) := by
  go_enter Try.func210, Try.ntmps210
  refine seq_stop ?_
  go_wp2
  refine stop_go (fun W hW => ?_)
  have s1 : w.heap.size < W.heap.size := by rw [hW]; simp only [World.size_alloc]; omega
  have b1 : ∀ i, W.cell? ⟨w.heap.size, i, none⟩ = (#[.pointer (some ⟨p, 0, none⟩)] : Array Value)[i]? := by intro i; rw [hW]; go_simp
  have X1 : Box W (w.heap.size) #[.pointer (some ⟨p, 0, none⟩)] := by rw [hW]; exact Box.new' (by first | rfl | (simp only [World.size_alloc]; done) | (simp only [World.size_alloc]; omega))
  have f1 : ∀ i, W.frozen? ⟨w.heap.size, i, none⟩ = false := by intro i; rw [hW]; go_simp
  have g0 : Grew w W := by rw [hW]; exact (Grew.refl _).alloc _
  clear hW
  have hpW := hp.grew g0
  have lp := hp.lt
  have BW : But w [p] W := (But.refl w [p]).grew g0
  have nq : w.heap.size ≠ p := by omega
  clear hp f1
  go_wp2_with (first | (go_at_call 206; ((with_reducible refine (ask_221 n p w.heap.size h1 h2 E va sa vn vc sn sc st0 3 1 j c (unitW j) W hpW (fun i w' hi hb hbx => cl221 n p w.heap.size i j E va sa vn vc sn sc 3 c w' (Box.but2 X1 hb (by simp; omega)) hbx)).mono ?_); rintro e w1 ⟨g, rfl, hg, hF, hB, hX⟩)))
  refine bodyPost_ret (v := .tuple #[.slice (some ⟨g, 0, none⟩) n n, .int .i64 1]) (by simp [results, Try.results210, go_sem, *]) rfl ?_
  exact ⟨g, rfl, by have := g0.below.size; omega, hF, BW.trans hB (fun _ h => .inl h), hX⟩
set_option maxRecDepth 100000 in
set_option maxHeartbeats 1000000 in
theorem final_ok (n p : Nat) (h1 : 2 ≤ n) (h2 : n ≤ 12) (E : Nat) (va sa : Option Addr) (vn vc sn sc : Nat) (st0 j c : Int) (w : World) (hp : Box w p #[.int .i64 n, .int .i64 st0, .float .f64 E, .slice va vn vc, .slice sa sn sc, .int .i64 j, .int .i64 c]) :
    Calls Try.prog 213 #[.pointer (some ⟨p, 0, none⟩)] w (fun e w' => ∃ g, e = .returned (.tuple #[.slice (some ⟨g, 0, none⟩) n n, .int .i64 1]) ∧ w.heap.size ≤ g ∧ FW w' g ((List.range n).map (lastW n)) ∧ But w [p] w' ∧ Box w' p #[.int .i64 n, .int .i64 5, .float .f64 E, .slice va vn vc, .slice sa sn sc, .int .i64 j, .int .i64 c]) := by
  go_enter Try.func213, Try.ntmps213
  refine seq_stop ?_
  go_wp2
  refine stop_go (fun W hW => ?_)
  have s1 : w.heap.size < W.heap.size := by rw [hW]; simp only [World.size_alloc]; omega
  have b1 : ∀ i, W.cell? ⟨w.heap.size, i, none⟩ = (#[.pointer (some ⟨p, 0, none⟩)] : Array Value)[i]? := by intro i; rw [hW]; go_simp
  have X1 : Box W (w.heap.size) #[.pointer (some ⟨p, 0, none⟩)] := by rw [hW]; exact Box.new' (by first | rfl | (simp only [World.size_alloc]; done) | (simp only [World.size_alloc]; omega))
  have f1 : ∀ i, W.frozen? ⟨w.heap.size, i, none⟩ = false := by intro i; rw [hW]; go_simp
  have g0 : Grew w W := by rw [hW]; exact (Grew.refl _).alloc _
  clear hW
  have hpW := hp.grew g0
  have lp := hp.lt
  have BW : But w [p] W := (But.refl w [p]).grew g0
  have nq : w.heap.size ≠ p := by omega
  clear hp f1
  go_wp2_with (first | (go_at_call 206; ((with_reducible refine (ask_222 n p w.heap.size (by omega) h2 E va sa vn vc sn sc st0 5 1 j c (lastW n) W hpW (fun i w' hi hb hbx => cl222 n p w.heap.size h1 h2 i hi E va sa vn vc sn sc 5 j c w' (Box.but2 X1 hb (by simp; omega)) hbx)).mono ?_); rintro e w1 ⟨g, rfl, hg, hF, hB, hX⟩)))
  refine bodyPost_ret (v := .tuple #[.slice (some ⟨g, 0, none⟩) n n, .int .i64 1]) (by simp [results, Try.results213, go_sem, *]) rfl ?_
  exact ⟨g, rfl, by have := g0.below.size; omega, hF, BW.trans hB (fun _ h => .inl h), hX⟩
set_option maxRecDepth 100000 in
set_option maxHeartbeats 2000000 in
theorem signs_ok (n p : Nat) (h1 : 2 ≤ n) (h2 : n ≤ 12) (E : Nat) (va sa : Option Addr) (vn vc sn sc : Nat) (st0 st j c : Int) (X : Value) (L : List Nat) (w : World) (hp : Box w p #[.int .i64 n, .int .i64 st0, .float .f64 E, .slice va vn vc, .slice sa sn sc, .int .i64 j, .int .i64 c]) (hX : FS w X L) (hL : L.length = n) :
    Calls Try.prog 209 #[.pointer (some ⟨p, 0, none⟩), .int .i64 st, X] w (fun e w' => ∃ g ta tn tc, e = .returned (.tuple #[.slice (some ⟨g, 0, none⟩) n n, .int .i64 2]) ∧ w.heap.size ≤ g ∧ FW w' g (sgL L) ∧ But w [p] w' ∧ Box w' p #[.int .i64 n, .int .i64 st, .float .f64 E, .slice va vn vc, .slice ta tn tc, .int .i64 j, .int .i64 c] ∧ FS w' (.slice ta tn tc) (sgL L) ∧ ∀ k, (Value.slice ta tn tc).ownBlock = some k → k ≠ p) := by
  have hsg := fun w' (h : FS w' X L) => sign_ok n X L w' h hL (by omega) h2
  obtain ⟨aX, cX, rfl⟩ := hX.shape
  rw [hL] at hsg
  have HL := hid hL
  clear hL
  go_enter Try.func209, Try.ntmps209
  refine seq_stop ?_
  go_wp2
  refine stop_go (fun W hW => ?_)
  have s1 : w.heap.size < W.heap.size := by rw [hW]; simp only [World.size_alloc]; omega
  have b1 : ∀ i, W.cell? ⟨w.heap.size, i, none⟩ = (#[.pointer (some ⟨p, 0, none⟩)] : Array Value)[i]? := by intro i; rw [hW]; go_simp
  have X1 : Box W (w.heap.size) #[.pointer (some ⟨p, 0, none⟩)] := by rw [hW]; exact Box.new' (by first | rfl | (simp only [World.size_alloc]; done) | (simp only [World.size_alloc]; omega))
  have f1 : ∀ i, W.frozen? ⟨w.heap.size, i, none⟩ = false := by intro i; rw [hW]; go_simp
  have g0 : Grew w W := by rw [hW]; exact (Grew.refl _).alloc _
  clear hW
  have hpW := hp.grew g0
  have hXW := hX.grew g0
  have lp := hp.lt
  have lpW := hpW.lt
  have BW : But w [p] W := (But.refl w [p]).grew g0
  have nq : w.heap.size ≠ p := by omega
  have fp := hpW.frozen
  have tp := hpW.cell
  have hlX := HL.out
  rw [hlX] at hXW
  clear hp f1 hX
  go_wp2
  refine wp_region_R (Grew W) [9] [(0,0), (3,1), (1,2), (1,3), (3,4), (3,5), (3,6), (3,7), (3,8), (2,9)] (by kernel_rfl) (by kernel_rfl) (fun _ _ _ _ h _ => h) (by first | exact ⟨_, _, ext_drew⟩ | exact ⟨_, _, drew_ext0⟩ | (show Grew _ _; repeat (first | (with_reducible exact Grew.refl _) | (with_reducible assumption) | (with_reducible exact Grew.same_o) | (with_reducible exact Grew.app_o) | (with_reducible refine Grew.ext ?_ _ _) | (with_reducible refine Grew.alloc ?_ _) | ((with_reducible refine Grew.setCell ?_ ?_ _); rotate_left; (focus (dsimp only; first | omega | (simp only [size_ext, World.size_alloc, Array.size_append]; omega)))) | (with_reducible refine Grew.drewN ?_ _) | (with_reducible refine Grew.drew ?_)))) ?_
  go_upto_region 2 with (first | ((with_reducible refine wpR_id ?_); first | (refine wpR_take (v := ?_) rfl rfl ?_ ?_; rotate_left; (focus (rintro w' ⟨o', n', rfl⟩; go_simp; try with_reducible rfl)); simp only [Act.put, List.setIfInBounds_toArray, List.set_cons_zero, List.set_cons_succ]) | (refine wpR_pure (v := ?_) rfl rfl ?_ ?_; rotate_left; (focus (intro w'; go_simp; try with_reducible rfl)); simp only [Act.put, List.setIfInBounds_toArray, List.set_cons_zero, List.set_cons_succ]) | (refine wpR_takeG (v := ?_) rfl rfl rfl rfl rfl ?_ ?_; rotate_left; (focus (rintro w' ⟨o', n', rfl⟩; go_simp; try with_reducible rfl)); simp only [Act.put, List.setIfInBounds_toArray, List.set_cons_zero, List.set_cons_succ]) | (refine wpR_skip rfl rfl rfl rfl rfl rfl ?_; simp only [Act.put, List.setIfInBounds_toArray, List.set_cons_zero, List.set_cons_succ]) | (refine wpR_skipU rfl rfl rfl rfl rfl ?_; simp only [Act.put, List.setIfInBounds_toArray, List.set_cons_zero, List.set_cons_succ]) | (refine wpR_do rfl rfl (fun K hK => ?_)) | (refine wpR_doG rfl rfl rfl rfl rfl (fun K hK => ?_)) | (refine wpR_last rfl rfl (fun K hK => ?_)) | (refine wpR_nil ?_)) | ((with_reducible refine wpR_go ?_ ?_); (focus (show Grew _ _; repeat (first | (with_reducible exact Grew.refl _) | (with_reducible assumption) | (with_reducible exact Grew.same_o) | (with_reducible exact Grew.app_o) | (with_reducible refine Grew.ext ?_ _ _) | (with_reducible refine Grew.alloc ?_ _) | ((with_reducible refine Grew.setCell ?_ ?_ _); rotate_left; (focus (dsimp only; first | omega | (simp only [size_ext, World.size_alloc, Array.size_append]; omega)))) | (with_reducible refine Grew.drewN ?_ _) | (with_reducible refine Grew.drew ?_))))) | ((with_reducible refine upon_id ?_); refine upon_fop rfl (by assumption) (by assumption) ?_; intro rr nn hr) | (go_at_call 190; ((with_reducible refine (lvec_any _ _ _ _).mono ?_); rintro e w1 ⟨rfl, o1, n1, rfl⟩)) | (go_at_call 97; ((with_reducible refine (hsg _ (by first | exact hXW.grew (by (show Grew _ _; (try simp only [← Array.append_assoc]); repeat (first | (with_reducible exact Grew.same_o) | (with_reducible exact Grew.refl _) | (with_reducible assumption) | (with_reducible refine Grew.alloc ?_ _) | (with_reducible refine Grew.app_r ?_) | ((with_reducible refine Grew.setCell ?_ ?_ _); rotate_left; (focus (dsimp only; first | omega | (simp only [size_ext, World.size_alloc, Array.size_append]; omega)))) | (with_reducible refine Grew.ext ?_ _ _) | (with_reducible refine Grew.drewN ?_ _) | (with_reducible refine Grew.drew ?_)))) | (rw [hlX]; exact hXW.grew (by (show Grew _ _; (try simp only [← Array.append_assoc]); repeat (first | (with_reducible exact Grew.same_o) | (with_reducible exact Grew.refl _) | (with_reducible assumption) | (with_reducible refine Grew.alloc ?_ _) | (with_reducible refine Grew.app_r ?_) | ((with_reducible refine Grew.setCell ?_ ?_ _); rotate_left; (focus (dsimp only; first | omega | (simp only [size_ext, World.size_alloc, Array.size_append]; omega)))) | (with_reducible refine Grew.ext ?_ _ _) | (with_reducible refine Grew.drewN ?_ _) | (with_reducible refine Grew.drew ?_))))))).mono ?_); rintro e w1 ⟨v, rfl, hv, o2, n2, rfl⟩; (obtain ⟨ta, tc, rfl⟩ := hv.shape))))
  refine name_any (fun V hV => ?_)
  have lS := sgL_length L
  rw [hlX] at lS
  simp only [ext_ext] at hv
  have PW1 : Box (ext W (o1 ++ o2) n2) p #[.int .i64 n, .int .i64 st0, .float .f64 E, .slice va vn vc, .slice sa sn sc, .int .i64 j, .int .i64 c] := hpW.grew (by (show Grew _ _; (try simp only [← Array.append_assoc]); repeat (first | (with_reducible exact Grew.same_o) | (with_reducible exact Grew.refl _) | (with_reducible assumption) | (with_reducible refine Grew.alloc ?_ _) | (with_reducible refine Grew.app_r ?_) | ((with_reducible refine Grew.setCell ?_ ?_ _); rotate_left; (focus (dsimp only; first | omega | (simp only [size_ext, World.size_alloc, Array.size_append]; omega)))) | (with_reducible refine Grew.ext ?_ _ _) | (with_reducible refine Grew.drewN ?_ _) | (with_reducible refine Grew.drew ?_))))
  have hnb := fs_no_box hv (by omega) PW1
  have hV2 : (ext W (o1 ++ o2) n2).setCell ⟨p, 4, none⟩ (.slice ta (sgL L).length tc) = V := by rw [setCell_ext lpW]; exact hV
  have BV1 : But (ext W (o1 ++ o2) n2) [p] V := by rw [← hV2]; exact (But.refl _ _).setP _
  have PV : Box V p #[.int .i64 n, .int .i64 st0, .float .f64 E, .slice va vn vc, .slice ta (sgL L).length tc, .int .i64 j, .int .i64 c] := by rw [← hV2]; exact PW1.setC 4 _
  have hS := FS.but1 hv (fun k hk h => hnb k hk (by simpa using h)) BV1
  have XV := Box.but2 (X1.grew (show Grew W (ext W (o1 ++ o2) n2) by (show Grew _ _; (try simp only [← Array.append_assoc]); repeat (first | (with_reducible exact Grew.same_o) | (with_reducible exact Grew.refl _) | (with_reducible assumption) | (with_reducible refine Grew.alloc ?_ _) | (with_reducible refine Grew.app_r ?_) | ((with_reducible refine Grew.setCell ?_ ?_ _); rotate_left; (focus (dsimp only; first | omega | (simp only [size_ext, World.size_alloc, Array.size_append]; omega)))) | (with_reducible refine Grew.ext ?_ _ _) | (with_reducible refine Grew.drewN ?_ _) | (with_reducible refine Grew.drew ?_))))) BV1 (by simp; omega)
  have BV : But w [p] V := (BW.grew (show Grew W (ext W (o1 ++ o2) n2) by (show Grew _ _; (try simp only [← Array.append_assoc]); repeat (first | (with_reducible exact Grew.same_o) | (with_reducible exact Grew.refl _) | (with_reducible assumption) | (with_reducible refine Grew.alloc ?_ _) | (with_reducible refine Grew.app_r ?_) | ((with_reducible refine Grew.setCell ?_ ?_ _); rotate_left; (focus (dsimp only; first | omega | (simp only [size_ext, World.size_alloc, Array.size_append]; omega)))) | (with_reducible refine Grew.ext ?_ _ _) | (with_reducible refine Grew.drewN ?_ _) | (with_reducible refine Grew.drew ?_))))).trans BV1 (fun _ h => .inl h)
  have t1 := XV.cell
  have l1 := XV.lt
  have zV := BV.size
  clear hV hV2 BV1 PW1 hv tp fp lpW hXW X1 hpW
  have hask := ask_220 n p w.heap.size (by omega) h2 E va ta vn vc (sgL L).length tc st0 st 2 j c (fun i => (sgL L).getD i 0) V PV (fun i w' hi hb hbx => cl220 n p w.heap.size i (sgL L) (by omega) E va vn vc _ st j c w' (Box.but2 XV hb (by simp; omega)) hbx (FS.but1 hS (fun k hk h => hnb k hk (by simpa using h)) hb))
  rw [list_map lS] at hask
  go_wp2_with (first | (go_at_call 206; ((with_reducible refine (hask).mono ?_); rintro e w1 ⟨g, rfl, hg, hF, hB, hX⟩)))
  refine bodyPost_ret (v := .tuple #[.slice (some ⟨g, 0, none⟩) n n, .int .i64 2]) (by simp [results, Try.results209, go_sem, *]) rfl ?_
  exact ⟨g, ta, (sgL L).length, tc, rfl, by omega, hF, BV.trans hB (fun _ h => .inl h), hX, FS.but1 hS (fun k hk h => hnb k hk (by simpa using h)) hB, hnb⟩
def betterW (T E : Nat) : Nat := if fgt T E = true then T else E
set_option maxRecDepth 100000 in
set_option maxHeartbeats 2000000 in
theorem better_ok (n p : Nat) (h1 : 1 ≤ n) (h2 : n ≤ 12) (E Ew t T : Nat) (va : Option Addr) (vn vc : Nat) (s : Value) (st j c : Int) (X : Value) (L : List Nat) (w : World) (hp : Box w p #[.int .i64 n, .int .i64 st, .float .f64 E, .slice va vn vc, s, .int .i64 j, .int .i64 c]) (hE : IsF E Ew) (ht : IsF t T) (hX : FS w X L) (hL : L.length = n) :
    Calls Try.prog 211 #[.pointer (some ⟨p, 0, none⟩), .float .f64 t, X] w (fun e w' => ∃ E2 ua un uc, e = .returned (.tuple #[]) ∧ IsF E2 (betterW T Ew) ∧ But w [p] w' ∧ Box w' p #[.int .i64 n, .int .i64 st, .float .f64 E2, .slice ua un uc, s, .int .i64 j, .int .i64 c]) := by
  have hcl := fun w' (g : Grew w w') => sclone_any X L w' (hX.grew g) (by omega) (by omega)
  have tp := hp.cell
  have lp := hp.lt
  have fp := hp.frozen
  have eo : FloatKind.f64.format.order t E = D64.order T Ew := ht.order hE
  cases hg : fgt T Ew
  · have e2 : (FloatKind.f64.format.order t E == some Ordering.gt) = false := by rw [eo]; exact hg
    have eB : betterW T Ew = Ew := by unfold betterW; rw [hg]; rfl
    rw [eB]
    clear eo hcl hX
    go_enter Try.func211, Try.ntmps211
    go_wp2
    go_end0
    exact ⟨_, _, _, _, rfl, hE, But.refl _ _, hp⟩
  · have e2 : (FloatKind.f64.format.order t E == some Ordering.gt) = true := by rw [eo]; exact hg
    have eB : betterW T Ew = T := by unfold betterW; rw [hg]; rfl
    rw [eB]
    have HP := hid hp
    clear eo hX hp
    go_enter Try.func211, Try.ntmps211
    go_wp2_with (first | (go_at_call 208; ((with_reducible refine (hcl _ (by (show Grew _ _; (try simp only [← Array.append_assoc]); repeat (first | (with_reducible exact Grew.same_o) | (with_reducible exact Grew.refl _) | (with_reducible assumption) | (with_reducible refine Grew.alloc ?_ _) | (with_reducible refine Grew.app_r ?_) | ((with_reducible refine Grew.setCell ?_ ?_ _); rotate_left; (focus (dsimp only; first | omega | (simp only [size_ext, World.size_alloc, Array.size_append]; omega)))) | (with_reducible refine Grew.ext ?_ _ _) | (with_reducible refine Grew.drewN ?_ _) | (with_reducible refine Grew.drew ?_))))).mono ?_); rintro e w1 ⟨b1, b2, b3, rfl, o1, n1, rfl⟩)))
    go_end0
    exact ⟨t, b1, b2, b3, rfl, ht, (((But.refl w [p]).setP _).setP _).grew (by (show Grew _ _; (try simp only [← Array.append_assoc]); repeat (first | (with_reducible exact Grew.same_o) | (with_reducible exact Grew.refl _) | (with_reducible assumption) | (with_reducible refine Grew.alloc ?_ _) | (with_reducible refine Grew.app_r ?_) | ((with_reducible refine Grew.setCell ?_ ?_ _); rotate_left; (focus (dsimp only; first | omega | (simp only [size_ext, World.size_alloc, Array.size_append]; omega)))) | (with_reducible refine Grew.ext ?_ _ _) | (with_reducible refine Grew.drewN ?_ _) | (with_reducible refine Grew.drew ?_)))), ((HP.out.setC 2 _).setC 3 _).grew (by (show Grew _ _; (try simp only [← Array.append_assoc]); repeat (first | (with_reducible exact Grew.same_o) | (with_reducible exact Grew.refl _) | (with_reducible assumption) | (with_reducible refine Grew.alloc ?_ _) | (with_reducible refine Grew.app_r ?_) | ((with_reducible refine Grew.setCell ?_ ?_ _); rotate_left; (focus (dsimp only; first | omega | (simp only [size_ext, World.size_alloc, Array.size_append]; omega)))) | (with_reducible refine Grew.ext ?_ _ _) | (with_reducible refine Grew.drewN ?_ _) | (with_reducible refine Grew.drew ?_))))⟩
end Go.Proofs.Ytcmggfpcbijcjaa
end
section
/-
  LacnBelow: the machine's steps, and what they keep (plain).
-/
set_option linter.unusedSimpArgs false
set_option linter.unusedVariables false
open Go Go.RowKit Sedge Ieee
namespace Go.Proofs.Ytcmggfpcbijcjaa
/-- A machine's state. -/
structure LM where
  st : Nat
  E : Nat
  S : List Nat
  j : Nat
  c : Nat
def sumW (X : List Nat) : Nat := fsumTo (absL X) X.length
/-- A step of the machine, handed X: the state behind it, what it asks for, and of which kind. -/
inductive LStep (n : Nat) (X : List Nat) : LM → LM → List Nat → Nat → Prop where
  | first1 (E S j c) : n = 1 → LStep n X ⟨1, E, S, j, c⟩ ⟨6, sumW X, S, j, c⟩ [] 0
  | first2 (E S j c) : 2 ≤ n → LStep n X ⟨1, E, S, j, c⟩ ⟨2, sumW X, sgL X, j, c⟩ (sgL X) 2
  | turned (E S j c) : LStep n X ⟨2, E, S, j, c⟩ ⟨3, E, S, mostW X, 2⟩ ((List.range n).map (unitW (mostW X))) 1
  | columnL (E S j c) : (seqF (sgL X) S || fle (sumW X) E) = true → LStep n X ⟨3, E, S, j, c⟩ ⟨5, betterW (sumW X) E, S, j, c⟩ ((List.range n).map (lastW n)) 1
  | columnS (E S j c) : (seqF (sgL X) S || fle (sumW X) E) = false → LStep n X ⟨3, E, S, j, c⟩ ⟨4, betterW (sumW X) E, sgL X, j, c⟩ (sgL X) 2
  | again1 (E S j c) : c < 5 → feq (fabs (X.getD j 0)) (fabs (X.getD (mostW X) 0)) = false → LStep n X ⟨4, E, S, j, c⟩ ⟨3, E, S, mostW X, c + 1⟩ ((List.range n).map (unitW (mostW X))) 1
  | again2 (E S j c) : (feq (fabs (X.getD j 0)) (fabs (X.getD (mostW X) 0)) = true ∨ 5 ≤ c) → LStep n X ⟨4, E, S, j, c⟩ ⟨5, E, S, mostW X, c⟩ ((List.range n).map (lastW n)) 1
  | last (E S j c) : LStep n X ⟨5, E, S, j, c⟩ ⟨6, betterW (fmul 4611686018427387904 (fdiv (sumW X) (fint (3 * n : Nat)))) E, S, j, c⟩ [] 0
/-- What a machine that has been asked is like. -/
def WFs (n : Nat) (m : LM) (Y : List Nat) (k : Nat) : Prop :=
  (m.st = 1 ∧ k = 1 ∧ Y = (List.range n).map (firstW n)) ∨ (m.st = 2 ∧ k = 2 ∧ 2 ≤ n ∧ Y.length = n ∧ m.S.length = n) ∨
  (m.st = 3 ∧ k = 1 ∧ 2 ≤ n ∧ m.S.length = n ∧ m.j < n ∧ m.c ≤ 5 ∧ Y = (List.range n).map (unitW m.j)) ∨
  (m.st = 4 ∧ k = 2 ∧ 2 ≤ n ∧ m.S.length = n ∧ m.j < n ∧ m.c ≤ 5 ∧ Y.length = n) ∨ (m.st = 5 ∧ k = 1 ∧ 2 ≤ n ∧ Y = (List.range n).map (lastW n)) ∨ (m.st = 6 ∧ k = 0)
def rankL (m : LM) : Nat := if m.st = 1 then 20 else if m.st = 2 then 19 else if m.st = 3 then 2 * (5 - m.c) + 4 else if m.st = 4 then 2 * (5 - m.c) + 3 else if m.st = 5 then 1 else 0
theorem WFs.next {n : Nat} {m m' : LM} {Y Y' X : List Nat} {k k' : Nat} (h1 : 1 ≤ n) (h : WFs n m Y k) (hX : X.length = n) (hs : LStep n X m m' Y' k') : WFs n m' Y' k' ∧ rankL m' < rankL m := by
  have hm : mostW X < n := by rw [← hX]; exact mostW_lt (by omega)
  have hl : (sgL X).length = n := by rw [sgL_length, hX]
  unfold WFs at h
  cases hs with
  | first1 E S j c e => exact ⟨.inr (.inr (.inr (.inr (.inr ⟨rfl, rfl⟩)))), by simp [rankL]⟩
  | first2 E S j c e => exact ⟨.inr (.inl ⟨rfl, rfl, e, hl, hl⟩), by simp [rankL]⟩
  | turned E S j c =>
    simp at h
    exact ⟨.inr (.inr (.inl ⟨rfl, rfl, by omega, by simpa using h.2.2.2, hm, by simp, rfl⟩)), by simp [rankL]⟩
  | columnL E S j c e =>
    simp at h
    exact ⟨.inr (.inr (.inr (.inr (.inl ⟨rfl, rfl, by omega, rfl⟩)))), by simp [rankL]⟩
  | columnS E S j c e =>
    simp at h
    exact ⟨.inr (.inr (.inr (.inl ⟨rfl, rfl, by omega, hl, by simp; omega, by simp; omega, hl⟩))), by simp [rankL]⟩
  | again1 E S j c e1 e2 =>
    simp at h
    exact ⟨.inr (.inr (.inl ⟨rfl, rfl, by omega, by simpa using h.2.2.1, hm, by simp; omega, rfl⟩)), by simp [rankL]; omega⟩
  | again2 E S j c e =>
    simp at h
    exact ⟨.inr (.inr (.inr (.inr (.inl ⟨rfl, rfl, by omega, rfl⟩)))), by simp [rankL]⟩
  | last E S j c => exact ⟨.inr (.inr (.inr (.inr (.inr ⟨rfl, rfl⟩)))), by simp [rankL]⟩
theorem map_getD {F : Nat → Nat} {n i : Nat} (h : i < n) : ((List.range n).map F).getD i 0 = F i := by
  rw [List.getD_eq_getElem?_getD, List.getElem?_map, List.getElem?_range h]; rfl
/-- The last question's numbers. -/
theorem last_words : ∀ n : Fin 13, 2 ≤ n.val → (∀ i : Fin 13, i.val < n.val → lastW n.val i.val < 2 ^ 64 ∧ fin (lastW n.val i.val) = true ∧ (val (lastW n.val i.val)).abs ≤ 3 ∧ p2 (-10) ≤ (val (lastW n.val i.val)).abs) ∧ sumQ (fun j => (val (lastW n.val j)).abs) n.val ≤ 3 / 2 * (n.val : Nat) * (1 + 8 * U) := by decide +kernel
/-- The estimate is as good as it is said to be, all along. -/
theorem est_next {a : Nat → Nat → Int} {M : Nat → Nat → Nat} {n : Nat} {m m' : LM} {Y Y' X : List Nat} {k k' : Nat} (h1 : 1 ≤ n) (h2 : n ≤ 12) (hM : ∀ i j, i < n → j < n → WI (M i j) (a i j) ∧ (a i j).natAbs ≤ 1000) (h : WFs n m Y k) (hP : 2 ≤ m.st → EstOk a n m.E) (hX : X.length = n)
    (hk : k = 1 → ∀ i, i < n → X.getD i 0 = mulTo 4607182418800017408 M (VecM.num ⟨Y, 0, n, 1⟩) 0 i n) (hs : LStep n X m m' Y' k') : 2 ≤ m'.st → EstOk a n m'.E := by
  have hl : k = 1 → ∀ i, i < n → (absL X).getD i 0 = fabs (mulTo 4607182418800017408 M (VecM.num ⟨Y, 0, n, 1⟩) 0 i n) := fun e i hi => by
    rw [absL_getD (by omega), hk e i hi]
  have hsum : sumW X = fsumTo (absL X) n := by unfold sumW; rw [hX]
  have hb : ∀ t, CandOk a n t → ∀ E, EstOk a n E → EstOk a n (betterW t E) := fun t ht E hE => by
    unfold betterW
    by_cases hg : fgt t E = true
    · rw [if_pos hg]; exact hE.better ht hg
    · rw [if_neg hg]; exact hE
  intro _
  unfold WFs at h
  cases hs with
  | first1 E S j c e =>
    simp at h
    show EstOk a n (sumW X)
    rw [hsum]
    exact first_ok h2 h1 hM (fun j hj => by rw [vec1_num, h.2, map_getD hj]; rfl) (hl h.1)
  | first2 E S j c e =>
    simp at h
    show EstOk a n (sumW X)
    rw [hsum]
    exact first_ok h2 h1 hM (fun j hj => by rw [vec1_num, h.2, map_getD hj]; rfl) (hl h.1)
  | turned E S j c => exact hP (by simp)
  | columnL E S j c e =>
    simp at h
    refine hb _ ?_ _ (hP (by simp))
    rw [hsum]
    exact column_ok (J := j) h2 hM (fun i hi => by rw [vec1_num, h.2.2.2.2.2, map_getD hi]; rfl) (hl h.1)
  | columnS E S j c e =>
    simp at h
    refine hb _ ?_ _ (hP (by simp))
    rw [hsum]
    exact column_ok (J := j) h2 hM (fun i hi => by rw [vec1_num, h.2.2.2.2.2, map_getD hi]; rfl) (hl h.1)
  | again1 E S j c e1 e2 => exact hP (by simp)
  | again2 E S j c e => exact hP (by simp)
  | last E S j c =>
    simp at h
    refine hb _ ?_ _ (hP (by simp))
    rw [hsum]
    obtain ⟨w1, w2⟩ := last_words ⟨n, by omega⟩ h.2.1
    simp only at w1 w2
    exact last_ok (y := fun i => val (lastW n i)) h2 h1 hM (fun i hi => by
      obtain ⟨v1, v2, v3, v4⟩ := w1 ⟨i, by omega⟩ hi
      rw [vec1_num, h.2.2, map_getD hi]
      exact ⟨⟨v1, v2, rfl⟩, v3, .inr v4⟩) w2 (hl h.1)
end Go.Proofs.Ytcmggfpcbijcjaa
end
section
/-
  Contracts for LacnBelow: the machine's Next (189), a theorem a stage.
-/
set_option linter.unusedSimpArgs false
set_option linter.unusedVariables false
open Go Go.RowKit Sedge
namespace Go.Proofs.Ytcmggfpcbijcjaa
/-- A machine in block p. -/
def MS (w : World) (p n : Nat) (m : LM) : Prop := ∃ E va vn vc sa sn sc, Box w p #[.int .i64 n, .int .i64 m.st, .float .f64 E, .slice va vn vc, .slice sa sn sc, .int .i64 m.j, .int .i64 m.c] ∧ IsF E m.E ∧ FS w (.slice sa sn sc) m.S ∧ ∀ k, (Value.slice sa sn sc).ownBlock = some k → k ≠ p
def NextPost (p n : Nat) (w : World) (m' : LM) (Y : List Nat) (k : Nat) (e : Ending) (w' : World) : Prop :=
  (k ≠ 0 → ∃ g, e = .returned (.tuple #[.slice (some ⟨g, 0, none⟩) n n, .int .i64 k]) ∧ w.heap.size ≤ g ∧ FW w' g Y) ∧ (k = 0 → e = .returned (.tuple #[.slice none 0 0, .int .i64 0])) ∧ But w [p] w' ∧ MS w' p n m'
theorem keepS {w w' : World} {v : Value} {L : List Nat} {p : Nat} (h : FS w v L) (hnb : ∀ k, v.ownBlock = some k → k ≠ p) (hb : But w [p] w') : FS w' v L := FS.but1 h (fun k hk h => hnb k hk (by simpa using h)) hb
theorem _root_.Sedge.But.gr {w w' : World} {p : Nat} (g : Grew w w') : But w [p] w' := (But.refl w [p]).grew g
theorem _root_.Sedge.But.tr {w w' w'' : World} {p : Nat} (h : But w [p] w') (k : But w' [p] w'') : But w [p] w'' := h.trans k (fun _ h => .inl h)
set_option maxRecDepth 100000 in
set_option maxHeartbeats 2000000 in
theorem next_begin (n p E j c : Nat) (S : List Nat) (h1 : 1 ≤ n) (h2 : n ≤ 12) (w : World) (hm : MS w p n ⟨0, E, S, j, c⟩) :
    Calls Try.prog 189 #[.pointer (some ⟨p, 0, none⟩), .slice none 0 0] w (NextPost p n w ⟨1, E, S, j, c⟩ ((List.range n).map (firstW n)) 1) := by
  obtain ⟨Eb, va, vn, vc, sa, sn, sc, hp0, hE, hS, hnb⟩ := hm
  have hp : Box w p #[.int .i64 n, .int .i64 0, .float .f64 Eb, .slice va vn vc, .slice sa sn sc, .int .i64 j, .int .i64 c] := hp0
  have d0 : ((n : Int) == 0) = false := by simp; omega
  clear hp0
  go_enter Try.func189, Try.ntmps189
  refine seq_stop ?_
  go_wp2
  refine stop_go (fun W hW => ?_)
  have s1 : w.heap.size < W.heap.size := by rw [hW]; simp only [World.size_alloc]; omega
  have b1 : ∀ i, W.cell? ⟨w.heap.size, i, none⟩ = (#[.pointer (some ⟨p, 0, none⟩)] : Array Value)[i]? := by intro i; rw [hW]; go_simp
  have X1 : Box W (w.heap.size) #[.pointer (some ⟨p, 0, none⟩)] := by rw [hW]; exact Box.new' (by first | rfl | (simp only [World.size_alloc]; done) | (simp only [World.size_alloc]; omega))
  have f1 : ∀ i, W.frozen? ⟨w.heap.size, i, none⟩ = false := by intro i; rw [hW]; go_simp
  have g0 : Grew w W := by rw [hW]; exact (Grew.refl _).alloc _
  clear hW
  have hpW := hp.grew g0
  have tp := hpW.cell
  have lpW := hpW.lt
  have lp := hp.lt
  have nq : w.heap.size ≠ p := by omega
  have hask := fun w' (g : Grew W w') => ask_207 n p w.heap.size h1 h2 Eb va sa vn vc sn sc 0 1 1 j c (firstW n) w' (hpW.grew g) (fun i u hi hb hbx => cl207 n p w.heap.size h2 i Eb va sa vn vc sn sc 1 j c u (Box.but2 (X1.grew g) hb (by simp; omega)) hbx)
  clear f1
  go_wp2_with (first | (go_at_call 205; ((with_reducible refine (nvec_any (.slice none 0 0) [] _ (FS.nil _) (by decide)).mono ?_); rintro e w1 ⟨r, q, rfl, hr, o1, n1, rfl⟩)) | (go_at_call 206; ((with_reducible refine (hask _ (by (show Grew _ _; (try simp only [← Array.append_assoc]); repeat (first | (with_reducible exact Grew.same_o) | (with_reducible exact Grew.refl _) | (with_reducible assumption) | (with_reducible refine Grew.alloc ?_ _) | (with_reducible refine Grew.app_r ?_) | ((with_reducible refine Grew.setCell ?_ ?_ _); rotate_left; (focus (dsimp only; first | omega | (simp only [size_ext, World.size_alloc, Array.size_append]; omega)))) | (with_reducible refine Grew.ext ?_ _ _) | (with_reducible refine Grew.drewN ?_ _) | (with_reducible refine Grew.drew ?_))))).mono ?_); rintro e w2 ⟨g, rfl, hg, hF, hB, hX⟩)))
  refine bodyPost_ret (v := .tuple #[.slice (some ⟨g, 0, none⟩) n n, .int .i64 1]) (by simp [results, Try.results189, go_sem, *]) rfl ?_
  have gw1 : Grew w (ext W o1 n1) := Grew.trans g0 (by (show Grew _ _; (try simp only [← Array.append_assoc]); repeat (first | (with_reducible exact Grew.same_o) | (with_reducible exact Grew.refl _) | (with_reducible assumption) | (with_reducible refine Grew.alloc ?_ _) | (with_reducible refine Grew.app_r ?_) | ((with_reducible refine Grew.setCell ?_ ?_ _); rotate_left; (focus (dsimp only; first | omega | (simp only [size_ext, World.size_alloc, Array.size_append]; omega)))) | (with_reducible refine Grew.ext ?_ _ _) | (with_reducible refine Grew.drewN ?_ _) | (with_reducible refine Grew.drew ?_))))
  have z1 := gw1.below.size
  exact ⟨fun _ => ⟨g, rfl, by omega, hF⟩, (fun h => by cases h), (But.gr gw1).tr hB, ⟨Eb, va, vn, vc, sa, sn, sc, hX, hE, keepS (hS.grew gw1) hnb hB, hnb⟩⟩
set_option maxRecDepth 100000 in
set_option maxHeartbeats 2000000 in
theorem next_first2 (n p E j c : Nat) (S : List Nat) (h1 : 2 ≤ n) (h2 : n ≤ 12) (w : World) (XL : List Nat) (gx cx : Nat) (hX : FW w gx XL) (hXL : XL.length = n) (ngx : gx ≠ p) (hm : MS w p n ⟨1, E, S, j, c⟩) :
    Calls Try.prog 189 #[.pointer (some ⟨p, 0, none⟩), .slice (some ⟨gx, 0, none⟩) n cx] w (NextPost p n w ⟨2, sumW XL, sgL XL, j, c⟩ (sgL XL) 2) := by
  obtain ⟨Eb, va, vn, vc, sa, sn, sc, hp0, hE, hS, hnb⟩ := hm
  have hp : Box w p #[.int .i64 n, .int .i64 1, .float .f64 Eb, .slice va vn vc, .slice sa sn sc, .int .i64 j, .int .i64 c] := hp0
  have d1 : decide ((1 : Int) < (n : Int)) = true := by simp; omega
  have fxs : ∀ w', FW w' gx XL → FS w' (.slice (some ⟨gx, 0, none⟩) n cx) XL := fun w' h => by have := h.fs (by omega) cx; rw [hXL] at this; exact this
  have d0 : ((n : Int) == 0) = false := by simp; omega
  have d2 : ((n : Int) != (n : Int)) = false := by simp
  clear hp0
  go_enter Try.func189, Try.ntmps189
  refine seq_stop ?_
  go_wp2
  refine stop_go (fun W hW => ?_)
  have s1 : w.heap.size < W.heap.size := by rw [hW]; simp only [World.size_alloc]; omega
  have b1 : ∀ i, W.cell? ⟨w.heap.size, i, none⟩ = (#[.pointer (some ⟨p, 0, none⟩)] : Array Value)[i]? := by intro i; rw [hW]; go_simp
  have X1 : Box W (w.heap.size) #[.pointer (some ⟨p, 0, none⟩)] := by rw [hW]; exact Box.new' (by first | rfl | (simp only [World.size_alloc]; done) | (simp only [World.size_alloc]; omega))
  have f1 : ∀ i, W.frozen? ⟨w.heap.size, i, none⟩ = false := by intro i; rw [hW]; go_simp
  have g0 : Grew w W := by rw [hW]; exact (Grew.refl _).alloc _
  clear hW
  have hpW := hp.grew g0
  have tp := hpW.cell
  have lpW := hpW.lt
  have lp := hp.lt
  have nq : w.heap.size ≠ p := by omega
  have hXW := hX.grew g0
  have hnv : Calls Try.prog 205 #[.slice (some ⟨gx, 0, none⟩) n cx] W (fun e w2 => ∃ r q, e = .returned (.tuple #[.float .f64 r, .float .f64 q]) ∧ IsF r (sumW XL) ∧ Grew W w2) := nvec_any _ XL W (fxs _ hXW) (by omega)
  have hcl : ∀ w', Grew W w' → Calls Try.prog 208 #[.slice (some ⟨gx, 0, none⟩) n cx] w' (fun e w2 => ∃ a n c, e = .returned (.slice a n c) ∧ Grew w' w2) := fun w' g => sclone_any _ XL w' (fxs _ (hXW.grew g)) (by omega) (by omega)
  have hvc : ∀ w', Calls Try.prog 190 #[.slice (some ⟨gx, 0, none⟩) n cx] w' (fun e w2 => e = .returned (.agg #[.slice (some ⟨gx, 0, none⟩) n cx, .int .i64 0, .int .i64 n, .int .i64 1]) ∧ Grew w' w2) := fun w' => lvec_any _ n cx w'
  clear f1
  go_upto_region 10 with (first | (go_at_call 205; ((with_reducible refine hnv.mono ?_); rintro e w1 ⟨r, qq, rfl, hr, gw1⟩; (have hp1 := hpW.grew gw1); (have tp1 := hp1.cell); (have lp1 := hp1.lt); (have fp1 := hp1.frozen); (have xq1 := (X1.grew gw1).cell); (have xl1 := (X1.grew gw1).lt))))
  have cq : ∀ w', But w1 [p] w' → ∀ i, w'.cell? ⟨w.heap.size, i, none⟩ = (#[.pointer (some ⟨p, 0, none⟩)] : Array Value)[i]? := fun w' hb => (Box.but2 (X1.grew gw1) hb (by simp; omega)).cell
  have B1 : But w1 [p] w1 := But.refl _ _
  refine wp_region_R (But w1 [p]) [] [(0,0), (0,1), (0,2), (0,3), (1,4), (0,5), (0,6), (1,7), (0,8), (0,9), (1,10)] (by kernel_rfl) (by kernel_rfl) (fun _ _ _ _ h _ => h) (B1.grew ((Grew.refl _).drew)) ?_
  go_upto_region 11 with (first | ((with_reducible refine wpR_id ?_); first | (refine wpR_take (v := ?_) rfl rfl ?_ ?_; rotate_left; (focus (intro w' hw'; go_simp; try with_reducible rfl)); simp only [Act.put, List.setIfInBounds_toArray, List.set_cons_zero, List.set_cons_succ]) | (refine wpR_pure (v := ?_) rfl rfl ?_ ?_; rotate_left; (focus (intro w'; go_simp; try with_reducible rfl)); simp only [Act.put, List.setIfInBounds_toArray, List.set_cons_zero, List.set_cons_succ]) | (refine wpR_takeG (v := ?_) rfl rfl rfl rfl rfl ?_ ?_; rotate_left; (focus (intro w' hw'; go_simp; try with_reducible rfl)); simp only [Act.put, List.setIfInBounds_toArray, List.set_cons_zero, List.set_cons_succ]) | (refine wpR_skip rfl rfl rfl rfl rfl rfl ?_; simp only [Act.put, List.setIfInBounds_toArray, List.set_cons_zero, List.set_cons_succ]) | (refine wpR_skipU rfl rfl rfl rfl rfl ?_; simp only [Act.put, List.setIfInBounds_toArray, List.set_cons_zero, List.set_cons_succ]) | (refine wpR_do rfl rfl (fun K hK => ?_)) | (refine wpR_doG rfl rfl rfl rfl rfl (fun K hK => ?_)) | (refine wpR_last rfl rfl (fun K hK => ?_)) | (refine wpR_nil ?_)) | ((with_reducible refine wpR_go ?_ ?_); (focus (repeat (first | (with_reducible assumption) | (with_reducible refine But.setP ?_ _) | (with_reducible refine But.grew ?_ (by (show Grew _ _; (try simp only [← Array.append_assoc]); repeat (first | (with_reducible exact Grew.same_o) | (with_reducible exact Grew.refl _) | (with_reducible assumption) | (with_reducible refine Grew.alloc ?_ _) | (with_reducible refine Grew.app_r ?_) | ((with_reducible refine Grew.setCell ?_ ?_ _); rotate_left; (focus (dsimp only; first | omega | (simp only [size_ext, World.size_alloc, Array.size_append]; omega)))) | (with_reducible refine Grew.ext ?_ _ _) | (with_reducible refine Grew.drewN ?_ _) | (with_reducible refine Grew.drew ?_))))))))) | ((with_reducible refine upon_id ?_); refine upon_fop rfl (by assumption) (by assumption) ?_; intro rr nn hr) | (go_at_call 208; ((with_reducible refine (hcl _ (by (show Grew _ _; (try simp only [← Array.append_assoc]); repeat (first | (with_reducible exact Grew.same_o) | (with_reducible exact Grew.refl _) | (with_reducible assumption) | (with_reducible refine Grew.alloc ?_ _) | (with_reducible refine Grew.app_r ?_) | ((with_reducible refine Grew.setCell ?_ ?_ _); rotate_left; (focus (dsimp only; first | omega | (simp only [size_ext, World.size_alloc, Array.size_append]; omega)))) | (with_reducible refine Grew.ext ?_ _ _) | (with_reducible refine Grew.drewN ?_ _) | (with_reducible refine Grew.drew ?_))))).mono ?_); rintro e w2 ⟨b1, b2, b3, rfl, gw2⟩; (have gw3 : Grew w1 w2 := Grew.trans (by (show Grew _ _; (try simp only [← Array.append_assoc]); repeat (first | (with_reducible exact Grew.same_o) | (with_reducible exact Grew.refl _) | (with_reducible assumption) | (with_reducible refine Grew.alloc ?_ _) | (with_reducible refine Grew.app_r ?_) | ((with_reducible refine Grew.setCell ?_ ?_ _); rotate_left; (focus (dsimp only; first | omega | (simp only [size_ext, World.size_alloc, Array.size_append]; omega)))) | (with_reducible refine Grew.ext ?_ _ _) | (with_reducible refine Grew.drewN ?_ _) | (with_reducible refine Grew.drew ?_)))) gw2); (have B2 : But w1 [p] w2 := But.gr gw3); (have hp2 := hp1.grew gw3); (have tp2 := hp2.cell); (have lp2 := hp2.lt); (have fp2 := hp2.frozen))))
  refine name_any (fun V hV => ?_)
  have PV : Box V p #[.int .i64 n, .int .i64 1, .float .f64 r, .slice b1 b2 b3, .slice sa sn sc, .int .i64 j, .int .i64 c] := by rw [← hV]; exact (hp2.setC 2 _).setC 3 _
  have BV : But w2 [p] V := by rw [← hV]; exact ((But.refl _ _).setP _).setP _
  clear hV
  have gz := gw3
  have BwV : But w [p] V := (But.gr (Grew.trans g0 (Grew.trans gw1 gz))).tr BV
  have zV := BwV.size
  have XV := Box.but2 (X1.grew (Grew.trans gw1 gz)) BV (by simp; omega)
  have FV : FW V gx XL := BV.fw (hXW.grew (Grew.trans gw1 gz)) (by simp; omega)
  have tv := PV.cell
  have lv := PV.lt
  have fv := PV.frozen
  have xv := XV.cell
  have lxv := XV.lt
  have hsig := signs_ok n p h1 h2 r b1 sa b2 b3 sn sc 1 2 j c (.slice (some ⟨gx, 0, none⟩) n cx) XL V PV (fxs _ FV) hXL
  go_wp2_with (first | (go_at_call 209; ((with_reducible refine hsig.mono ?_); rintro e w4 ⟨g, ta, tn, tc, rfl, hz, hF, hB, hX2, hS2, hnb2⟩)))
  refine bodyPost_ret (v := .tuple #[.slice (some ⟨g, 0, none⟩) n n, .int .i64 2]) (by simp [results, Try.results189, go_sem, *]) rfl ?_
  exact ⟨fun _ => ⟨g, rfl, by omega, hF⟩, (fun h => by cases h), BwV.tr hB, ⟨r, b1, b2, b3, ta, tn, tc, hX2, hr, hS2, hnb2⟩⟩
set_option maxRecDepth 100000 in
set_option maxHeartbeats 2000000 in
theorem next_first1 (n p E j c : Nat) (S : List Nat) (h1 : n = 1) (h2 : n ≤ 12) (w : World) (XL : List Nat) (gx cx : Nat) (hX : FW w gx XL) (hXL : XL.length = n) (ngx : gx ≠ p) (hm : MS w p n ⟨1, E, S, j, c⟩) :
    Calls Try.prog 189 #[.pointer (some ⟨p, 0, none⟩), .slice (some ⟨gx, 0, none⟩) n cx] w (NextPost p n w ⟨6, sumW XL, S, j, c⟩ [] 0) := by
  obtain ⟨Eb, va, vn, vc, sa, sn, sc, hp0, hE, hS, hnb⟩ := hm
  have hp : Box w p #[.int .i64 n, .int .i64 1, .float .f64 Eb, .slice va vn vc, .slice sa sn sc, .int .i64 j, .int .i64 c] := hp0
  have d1 : decide ((1 : Int) < (n : Int)) = false := by simp; omega
  have hn1 : 1 ≤ n := by omega
  clear h1
  have fxs : ∀ w', FW w' gx XL → FS w' (.slice (some ⟨gx, 0, none⟩) n cx) XL := fun w' h => by have := h.fs (by omega) cx; rw [hXL] at this; exact this
  have d0 : ((n : Int) == 0) = false := by simp; omega
  have d2 : ((n : Int) != (n : Int)) = false := by simp
  clear hp0
  go_enter Try.func189, Try.ntmps189
  refine seq_stop ?_
  go_wp2
  refine stop_go (fun W hW => ?_)
  have s1 : w.heap.size < W.heap.size := by rw [hW]; simp only [World.size_alloc]; omega
  have b1 : ∀ i, W.cell? ⟨w.heap.size, i, none⟩ = (#[.pointer (some ⟨p, 0, none⟩)] : Array Value)[i]? := by intro i; rw [hW]; go_simp
  have X1 : Box W (w.heap.size) #[.pointer (some ⟨p, 0, none⟩)] := by rw [hW]; exact Box.new' (by first | rfl | (simp only [World.size_alloc]; done) | (simp only [World.size_alloc]; omega))
  have f1 : ∀ i, W.frozen? ⟨w.heap.size, i, none⟩ = false := by intro i; rw [hW]; go_simp
  have g0 : Grew w W := by rw [hW]; exact (Grew.refl _).alloc _
  clear hW
  have hpW := hp.grew g0
  have tp := hpW.cell
  have lpW := hpW.lt
  have lp := hp.lt
  have nq : w.heap.size ≠ p := by omega
  have hXW := hX.grew g0
  have hnv : Calls Try.prog 205 #[.slice (some ⟨gx, 0, none⟩) n cx] W (fun e w2 => ∃ r q, e = .returned (.tuple #[.float .f64 r, .float .f64 q]) ∧ IsF r (sumW XL) ∧ Grew W w2) := nvec_any _ XL W (fxs _ hXW) (by omega)
  have hcl : ∀ w', Grew W w' → Calls Try.prog 208 #[.slice (some ⟨gx, 0, none⟩) n cx] w' (fun e w2 => ∃ a n c, e = .returned (.slice a n c) ∧ Grew w' w2) := fun w' g => sclone_any _ XL w' (fxs _ (hXW.grew g)) (by omega) (by omega)
  have hvc : ∀ w', Calls Try.prog 190 #[.slice (some ⟨gx, 0, none⟩) n cx] w' (fun e w2 => e = .returned (.agg #[.slice (some ⟨gx, 0, none⟩) n cx, .int .i64 0, .int .i64 n, .int .i64 1]) ∧ Grew w' w2) := fun w' => lvec_any _ n cx w'
  clear f1
  go_upto_region 10 with (first | (go_at_call 205; ((with_reducible refine hnv.mono ?_); rintro e w1 ⟨r, qq, rfl, hr, gw1⟩; (have hp1 := hpW.grew gw1); (have tp1 := hp1.cell); (have lp1 := hp1.lt); (have fp1 := hp1.frozen); (have xq1 := (X1.grew gw1).cell); (have xl1 := (X1.grew gw1).lt))))
  have cq : ∀ w', But w1 [p] w' → ∀ i, w'.cell? ⟨w.heap.size, i, none⟩ = (#[.pointer (some ⟨p, 0, none⟩)] : Array Value)[i]? := fun w' hb => (Box.but2 (X1.grew gw1) hb (by simp; omega)).cell
  have B1 : But w1 [p] w1 := But.refl _ _
  refine wp_region_R (But w1 [p]) [] [(0,0), (0,1), (0,2), (0,3), (1,4), (0,5), (0,6), (1,7), (0,8), (0,9), (1,10)] (by kernel_rfl) (by kernel_rfl) (fun _ _ _ _ h _ => h) (B1.grew ((Grew.refl _).drew)) ?_
  go_upto_region 11 with (first | ((with_reducible refine wpR_id ?_); first | (refine wpR_take (v := ?_) rfl rfl ?_ ?_; rotate_left; (focus (intro w' hw'; go_simp; try with_reducible rfl)); simp only [Act.put, List.setIfInBounds_toArray, List.set_cons_zero, List.set_cons_succ]) | (refine wpR_pure (v := ?_) rfl rfl ?_ ?_; rotate_left; (focus (intro w'; go_simp; try with_reducible rfl)); simp only [Act.put, List.setIfInBounds_toArray, List.set_cons_zero, List.set_cons_succ]) | (refine wpR_takeG (v := ?_) rfl rfl rfl rfl rfl ?_ ?_; rotate_left; (focus (intro w' hw'; go_simp; try with_reducible rfl)); simp only [Act.put, List.setIfInBounds_toArray, List.set_cons_zero, List.set_cons_succ]) | (refine wpR_skip rfl rfl rfl rfl rfl rfl ?_; simp only [Act.put, List.setIfInBounds_toArray, List.set_cons_zero, List.set_cons_succ]) | (refine wpR_skipU rfl rfl rfl rfl rfl ?_; simp only [Act.put, List.setIfInBounds_toArray, List.set_cons_zero, List.set_cons_succ]) | (refine wpR_do rfl rfl (fun K hK => ?_)) | (refine wpR_doG rfl rfl rfl rfl rfl (fun K hK => ?_)) | (refine wpR_last rfl rfl (fun K hK => ?_)) | (refine wpR_nil ?_)) | ((with_reducible refine wpR_go ?_ ?_); (focus (repeat (first | (with_reducible assumption) | (with_reducible refine But.setP ?_ _) | (with_reducible refine But.grew ?_ (by (show Grew _ _; (try simp only [← Array.append_assoc]); repeat (first | (with_reducible exact Grew.same_o) | (with_reducible exact Grew.refl _) | (with_reducible assumption) | (with_reducible refine Grew.alloc ?_ _) | (with_reducible refine Grew.app_r ?_) | ((with_reducible refine Grew.setCell ?_ ?_ _); rotate_left; (focus (dsimp only; first | omega | (simp only [size_ext, World.size_alloc, Array.size_append]; omega)))) | (with_reducible refine Grew.ext ?_ _ _) | (with_reducible refine Grew.drewN ?_ _) | (with_reducible refine Grew.drew ?_))))))))) | ((with_reducible refine upon_id ?_); refine upon_fop rfl (by assumption) (by assumption) ?_; intro rr nn hr) | (go_at_call 208; ((with_reducible refine (hcl _ (by (show Grew _ _; (try simp only [← Array.append_assoc]); repeat (first | (with_reducible exact Grew.same_o) | (with_reducible exact Grew.refl _) | (with_reducible assumption) | (with_reducible refine Grew.alloc ?_ _) | (with_reducible refine Grew.app_r ?_) | ((with_reducible refine Grew.setCell ?_ ?_ _); rotate_left; (focus (dsimp only; first | omega | (simp only [size_ext, World.size_alloc, Array.size_append]; omega)))) | (with_reducible refine Grew.ext ?_ _ _) | (with_reducible refine Grew.drewN ?_ _) | (with_reducible refine Grew.drew ?_))))).mono ?_); rintro e w2 ⟨b1, b2, b3, rfl, gw2⟩; (have gw3 : Grew w1 w2 := Grew.trans (by (show Grew _ _; (try simp only [← Array.append_assoc]); repeat (first | (with_reducible exact Grew.same_o) | (with_reducible exact Grew.refl _) | (with_reducible assumption) | (with_reducible refine Grew.alloc ?_ _) | (with_reducible refine Grew.app_r ?_) | ((with_reducible refine Grew.setCell ?_ ?_ _); rotate_left; (focus (dsimp only; first | omega | (simp only [size_ext, World.size_alloc, Array.size_append]; omega)))) | (with_reducible refine Grew.ext ?_ _ _) | (with_reducible refine Grew.drewN ?_ _) | (with_reducible refine Grew.drew ?_)))) gw2); (have B2 : But w1 [p] w2 := But.gr gw3); (have hp2 := hp1.grew gw3); (have tp2 := hp2.cell); (have lp2 := hp2.lt); (have fp2 := hp2.frozen))))
  refine name_any (fun V hV => ?_)
  have PV : Box V p #[.int .i64 n, .int .i64 1, .float .f64 r, .slice b1 b2 b3, .slice sa sn sc, .int .i64 j, .int .i64 c] := by rw [← hV]; exact (hp2.setC 2 _).setC 3 _
  have BV : But w2 [p] V := by rw [← hV]; exact ((But.refl _ _).setP _).setP _
  clear hV
  have gz := gw3
  have BwV : But w [p] V := (But.gr (Grew.trans g0 (Grew.trans gw1 gz))).tr BV
  have zV := BwV.size
  have XV := Box.but2 (X1.grew (Grew.trans gw1 gz)) BV (by simp; omega)
  have FV : FW V gx XL := BV.fw (hXW.grew (Grew.trans gw1 gz)) (by simp; omega)
  have tv := PV.cell
  have lv := PV.lt
  have fv := PV.frozen
  have xv := XV.cell
  have lxv := XV.lt
  go_wp2
  refine bodyPost_ret (v := .tuple #[.slice none 0 0, .int .i64 0]) (by simp [results, Try.results189, go_sem, *]) rfl ?_
  exact ⟨(fun h => absurd rfl h), fun _ => rfl, BwV.setP _, ⟨r, b1, b2, b3, sa, sn, sc, PV.setC 1 _, hr, keepS hS hnb (BwV.setP _), hnb⟩⟩
set_option maxRecDepth 100000 in
set_option maxHeartbeats 2000000 in
theorem next_turned (n p E j c : Nat) (S : List Nat) (h1 : 1 ≤ n) (h2 : n ≤ 12) (w : World) (XL : List Nat) (gx cx : Nat) (hX : FW w gx XL) (hXL : XL.length = n) (ngx : gx ≠ p) (hm : MS w p n ⟨2, E, S, j, c⟩) :
    Calls Try.prog 189 #[.pointer (some ⟨p, 0, none⟩), .slice (some ⟨gx, 0, none⟩) n cx] w (NextPost p n w ⟨3, E, S, mostW XL, 2⟩ ((List.range n).map (unitW (mostW XL))) 1) := by
  obtain ⟨Eb, va, vn, vc, sa, sn, sc, hp0, hE, hS, hnb⟩ := hm
  have hp : Box w p #[.int .i64 n, .int .i64 2, .float .f64 Eb, .slice va vn vc, .slice sa sn sc, .int .i64 j, .int .i64 c] := hp0
  have fxs : ∀ w', FW w' gx XL → FS w' (.slice (some ⟨gx, 0, none⟩) n cx) XL := fun w' h => by have := h.fs (by omega) cx; rw [hXL] at this; exact this
  have d0 : ((n : Int) == 0) = false := by simp; omega
  have d2 : ((n : Int) != (n : Int)) = false := by simp
  clear hp0
  go_enter Try.func189, Try.ntmps189
  refine seq_stop ?_
  go_wp2
  refine stop_go (fun W hW => ?_)
  have s1 : w.heap.size < W.heap.size := by rw [hW]; simp only [World.size_alloc]; omega
  have b1 : ∀ i, W.cell? ⟨w.heap.size, i, none⟩ = (#[.pointer (some ⟨p, 0, none⟩)] : Array Value)[i]? := by intro i; rw [hW]; go_simp
  have X1 : Box W (w.heap.size) #[.pointer (some ⟨p, 0, none⟩)] := by rw [hW]; exact Box.new' (by first | rfl | (simp only [World.size_alloc]; done) | (simp only [World.size_alloc]; omega))
  have f1 : ∀ i, W.frozen? ⟨w.heap.size, i, none⟩ = false := by intro i; rw [hW]; go_simp
  have g0 : Grew w W := by rw [hW]; exact (Grew.refl _).alloc _
  clear hW
  have hpW := hp.grew g0
  have tp := hpW.cell
  have lpW := hpW.lt
  have lp := hp.lt
  have nq : w.heap.size ≠ p := by omega
  have hXW := hX.grew g0
  have hnv : Calls Try.prog 205 #[.slice (some ⟨gx, 0, none⟩) n cx] W (fun e w2 => ∃ r q, e = .returned (.tuple #[.float .f64 r, .float .f64 q]) ∧ IsF r (sumW XL) ∧ Grew W w2) := nvec_any _ XL W (fxs _ hXW) (by omega)
  have hcl : ∀ w', Grew W w' → Calls Try.prog 208 #[.slice (some ⟨gx, 0, none⟩) n cx] w' (fun e w2 => ∃ a n c, e = .returned (.slice a n c) ∧ Grew w' w2) := fun w' g => sclone_any _ XL w' (fxs _ (hXW.grew g)) (by omega) (by omega)
  have hvc : ∀ w', Calls Try.prog 190 #[.slice (some ⟨gx, 0, none⟩) n cx] w' (fun e w2 => e = .returned (.agg #[.slice (some ⟨gx, 0, none⟩) n cx, .int .i64 0, .int .i64 n, .int .i64 1]) ∧ Grew w' w2) := fun w' => lvec_any _ n cx w'
  clear f1
  go_upto_region 14 with (first | (go_at_call 205; ((with_reducible refine hnv.mono ?_); rintro e w1 ⟨r, qq, rfl, hr, gw1⟩; (have hp1 := hpW.grew gw1); (have tp1 := hp1.cell); (have lp1 := hp1.lt); (have fp1 := hp1.frozen); (have xq1 := (X1.grew gw1).cell); (have xl1 := (X1.grew gw1).lt))))
  refine wp_region_R (Grew w1) [9] [(0,0), (3,1), (1,2), (1,3), (3,4), (3,5), (3,6), (3,7), (3,8), (2,9)] (by kernel_rfl) (by kernel_rfl) (fun _ _ _ _ h _ => h) (by first | exact ⟨_, _, ext_drew⟩ | exact ⟨_, _, drew_ext0⟩ | (show Grew _ _; repeat (first | (with_reducible exact Grew.refl _) | (with_reducible assumption) | (with_reducible exact Grew.same_o) | (with_reducible exact Grew.app_o) | (with_reducible refine Grew.ext ?_ _ _) | (with_reducible refine Grew.alloc ?_ _) | ((with_reducible refine Grew.setCell ?_ ?_ _); rotate_left; (focus (dsimp only; first | omega | (simp only [size_ext, World.size_alloc, Array.size_append]; omega)))) | (with_reducible refine Grew.drewN ?_ _) | (with_reducible refine Grew.drew ?_)))) ?_
  go_upto_region 15 with (first | ((with_reducible refine wpR_id ?_); first | (refine wpR_take (v := ?_) rfl rfl ?_ ?_; rotate_left; (focus (rintro w' ⟨o', n', rfl⟩; go_simp; try with_reducible rfl)); simp only [Act.put, List.setIfInBounds_toArray, List.set_cons_zero, List.set_cons_succ]) | (refine wpR_pure (v := ?_) rfl rfl ?_ ?_; rotate_left; (focus (intro w'; go_simp; try with_reducible rfl)); simp only [Act.put, List.setIfInBounds_toArray, List.set_cons_zero, List.set_cons_succ]) | (refine wpR_takeG (v := ?_) rfl rfl rfl rfl rfl ?_ ?_; rotate_left; (focus (rintro w' ⟨o', n', rfl⟩; go_simp; try with_reducible rfl)); simp only [Act.put, List.setIfInBounds_toArray, List.set_cons_zero, List.set_cons_succ]) | (refine wpR_skip rfl rfl rfl rfl rfl rfl ?_; simp only [Act.put, List.setIfInBounds_toArray, List.set_cons_zero, List.set_cons_succ]) | (refine wpR_skipU rfl rfl rfl rfl rfl ?_; simp only [Act.put, List.setIfInBounds_toArray, List.set_cons_zero, List.set_cons_succ]) | (refine wpR_do rfl rfl (fun K hK => ?_)) | (refine wpR_doG rfl rfl rfl rfl rfl (fun K hK => ?_)) | (refine wpR_last rfl rfl (fun K hK => ?_)) | (refine wpR_nil ?_)) | ((with_reducible refine wpR_go ?_ ?_); (focus (show Grew _ _; repeat (first | (with_reducible exact Grew.refl _) | (with_reducible assumption) | (with_reducible exact Grew.same_o) | (with_reducible exact Grew.app_o) | (with_reducible refine Grew.ext ?_ _ _) | (with_reducible refine Grew.alloc ?_ _) | ((with_reducible refine Grew.setCell ?_ ?_ _); rotate_left; (focus (dsimp only; first | omega | (simp only [size_ext, World.size_alloc, Array.size_append]; omega)))) | (with_reducible refine Grew.drewN ?_ _) | (with_reducible refine Grew.drew ?_))))) | ((with_reducible refine upon_id ?_); refine upon_fop rfl (by assumption) (by assumption) ?_; intro rr nn hr) | (go_at_call 190; ((with_reducible refine (hvc _).mono ?_); rintro e w2 ⟨rfl, gw2⟩; (have gw3 : Grew w1 w2 := Grew.trans (by (show Grew _ _; (try simp only [← Array.append_assoc]); repeat (first | (with_reducible exact Grew.same_o) | (with_reducible exact Grew.refl _) | (with_reducible assumption) | (with_reducible refine Grew.alloc ?_ _) | (with_reducible refine Grew.app_r ?_) | ((with_reducible refine Grew.setCell ?_ ?_ _); rotate_left; (focus (dsimp only; first | omega | (simp only [size_ext, World.size_alloc, Array.size_append]; omega)))) | (with_reducible refine Grew.ext ?_ _ _) | (with_reducible refine Grew.drewN ?_ _) | (with_reducible refine Grew.drew ?_)))) gw2); (have hp2 := hp1.grew gw3); (have tp2 := hp2.cell); (have lp2 := hp2.lt); (have fp2 := hp2.frozen))) | (go_at_call 127; ((with_reducible refine (most_w n (.slice (some ⟨gx, 0, none⟩) n cx) XL _ (fxs _ (hXW.grew (Grew.trans gw1 (by (show Grew _ _; (try simp only [← Array.append_assoc]); repeat (first | (with_reducible exact Grew.same_o) | (with_reducible exact Grew.refl _) | (with_reducible assumption) | (with_reducible refine Grew.alloc ?_ _) | (with_reducible refine Grew.app_r ?_) | ((with_reducible refine Grew.setCell ?_ ?_ _); rotate_left; (focus (dsimp only; first | omega | (simp only [size_ext, World.size_alloc, Array.size_append]; omega)))) | (with_reducible refine Grew.ext ?_ _ _) | (with_reducible refine Grew.drewN ?_ _) | (with_reducible refine Grew.drew ?_))))))) hXL (by omega) h2).mono ?_); rintro e w3 ⟨rfl, gm⟩; (have gw5 : Grew w1 w3 := Grew.trans (by (show Grew _ _; (try simp only [← Array.append_assoc]); repeat (first | (with_reducible exact Grew.same_o) | (with_reducible exact Grew.refl _) | (with_reducible assumption) | (with_reducible refine Grew.alloc ?_ _) | (with_reducible refine Grew.app_r ?_) | ((with_reducible refine Grew.setCell ?_ ?_ _); rotate_left; (focus (dsimp only; first | omega | (simp only [size_ext, World.size_alloc, Array.size_append]; omega)))) | (with_reducible refine Grew.ext ?_ _ _) | (with_reducible refine Grew.drewN ?_ _) | (with_reducible refine Grew.drew ?_)))) (show Grew _ _ from gm)); (have hp3 := hp1.grew gw5); (have tp3 := hp3.cell); (have lp3 := hp3.lt); (have fp3 := hp3.frozen))))
  refine name_any (fun V hV => ?_)
  have PV : Box V p #[.int .i64 n, .int .i64 2, .float .f64 Eb, .slice va vn vc, .slice sa sn sc, .int .i64 (mostW XL), .int .i64 c] := by rw [← hV]; exact hp3.setC 5 _
  have BV : But w3 [p] V := by rw [← hV]; exact (But.refl _ _).setP _
  clear hV
  have gz := gw5
  have BwV : But w [p] V := (But.gr (Grew.trans g0 (Grew.trans gw1 gz))).tr BV
  have zV := BwV.size
  have XV := Box.but2 (X1.grew (Grew.trans gw1 gz)) BV (by simp; omega)
  have FV : FW V gx XL := BV.fw (hXW.grew (Grew.trans gw1 gz)) (by simp; omega)
  have tv := PV.cell
  have lv := PV.lt
  have fv := PV.frozen
  have xv := XV.cell
  have lxv := XV.lt
  go_upto_region 16 with fail
  refine name_any (fun V2 hV2 => ?_)
  have PV2 : Box V2 p #[.int .i64 n, .int .i64 2, .float .f64 Eb, .slice va vn vc, .slice sa sn sc, .int .i64 (mostW XL), .int .i64 2] := by rw [← hV2]; exact PV.setC 6 _
  have BV2 : But V [p] V2 := by rw [← hV2]; exact (But.refl _ _).setP _
  clear hV2
  have zV2 := BV2.size
  have XV2 := Box.but2 XV BV2 (by simp; omega)
  have xv2 := XV2.cell
  have lxv2 := XV2.lt
  have huni := unit_ok n p h1 h2 Eb va sa vn vc sn sc 2 2 (mostW XL) V2 PV2
  go_wp2_with (first | (go_at_call 210; ((with_reducible refine huni.mono ?_); rintro e w4 ⟨g, rfl, hz, hF, hB, hX2⟩)))
  refine bodyPost_ret (v := .tuple #[.slice (some ⟨g, 0, none⟩) n n, .int .i64 1]) (by simp [results, Try.results189, go_sem, *]) rfl ?_
  have BB := (BwV.tr BV2).tr hB
  exact ⟨fun _ => ⟨g, rfl, by omega, hF⟩, (fun h => by cases h), BB, ⟨Eb, va, vn, vc, sa, sn, sc, hX2, hE, keepS hS hnb BB, hnb⟩⟩
end Go.Proofs.Ytcmggfpcbijcjaa
end
section
/-
  Contracts for LacnBelow: the machine's Next (189): a column, again, last.
-/
set_option linter.unusedSimpArgs false
set_option linter.unusedVariables false
open Go Go.RowKit Sedge
namespace Go.Proofs.Ytcmggfpcbijcjaa
set_option maxRecDepth 100000 in
set_option maxHeartbeats 2000000 in
theorem next_columnL (n p E j c : Nat) (S : List Nat) (h1 : 2 ≤ n) (h2 : n ≤ 12) (w : World) (XL : List Nat) (gx cx : Nat) (hX : FW w gx XL) (hXL : XL.length = n) (ngx : gx ≠ p) (hSl : S.length = n) (hq : (seqF (sgL XL) S || fle (sumW XL) E) = true) (hm : MS w p n ⟨3, E, S, j, c⟩) :
    Calls Try.prog 189 #[.pointer (some ⟨p, 0, none⟩), .slice (some ⟨gx, 0, none⟩) n cx] w (NextPost p n w ⟨5, betterW (sumW XL) E, S, j, c⟩ ((List.range n).map (lastW n)) 1) := by
  obtain ⟨Eb, va, vn, vc, sa, sn, sc, hp0, hE, hS, hnb⟩ := hm
  have hp : Box w p #[.int .i64 n, .int .i64 3, .float .f64 Eb, .slice va vn vc, .slice sa sn sc, .int .i64 j, .int .i64 c] := hp0
  have HQ := hid hq
  clear hq
  have fxs : ∀ w', FW w' gx XL → FS w' (.slice (some ⟨gx, 0, none⟩) n cx) XL := fun w' h => by have := h.fs (by omega) cx; rw [hXL] at this; exact this
  have d0 : ((n : Int) == 0) = false := by simp; omega
  have d2 : ((n : Int) != (n : Int)) = false := by simp
  clear hp0
  go_enter Try.func189, Try.ntmps189
  refine seq_stop ?_
  go_wp2
  refine stop_go (fun W hW => ?_)
  have s1 : w.heap.size < W.heap.size := by rw [hW]; simp only [World.size_alloc]; omega
  have b1 : ∀ i, W.cell? ⟨w.heap.size, i, none⟩ = (#[.pointer (some ⟨p, 0, none⟩)] : Array Value)[i]? := by intro i; rw [hW]; go_simp
  have X1 : Box W (w.heap.size) #[.pointer (some ⟨p, 0, none⟩)] := by rw [hW]; exact Box.new' (by first | rfl | (simp only [World.size_alloc]; done) | (simp only [World.size_alloc]; omega))
  have f1 : ∀ i, W.frozen? ⟨w.heap.size, i, none⟩ = false := by intro i; rw [hW]; go_simp
  have g0 : Grew w W := by rw [hW]; exact (Grew.refl _).alloc _
  clear hW
  have hpW := hp.grew g0
  have tp := hpW.cell
  have lpW := hpW.lt
  have lp := hp.lt
  have nq : w.heap.size ≠ p := by omega
  have hXW := hX.grew g0
  have hnv : Calls Try.prog 205 #[.slice (some ⟨gx, 0, none⟩) n cx] W (fun e w2 => ∃ r q, e = .returned (.tuple #[.float .f64 r, .float .f64 q]) ∧ IsF r (sumW XL) ∧ Grew W w2) := nvec_any _ XL W (fxs _ hXW) (by omega)
  have hcl : ∀ w', Grew W w' → Calls Try.prog 208 #[.slice (some ⟨gx, 0, none⟩) n cx] w' (fun e w2 => ∃ a n c, e = .returned (.slice a n c) ∧ Grew w' w2) := fun w' g => sclone_any _ XL w' (fxs _ (hXW.grew g)) (by omega) (by omega)
  have hvc : ∀ w', Calls Try.prog 190 #[.slice (some ⟨gx, 0, none⟩) n cx] w' (fun e w2 => e = .returned (.agg #[.slice (some ⟨gx, 0, none⟩) n cx, .int .i64 0, .int .i64 n, .int .i64 1]) ∧ Grew w' w2) := fun w' => lvec_any _ n cx w'
  clear f1
  go_upto_region 19 with (first | (go_at_call 205; ((with_reducible refine hnv.mono ?_); rintro e w1 ⟨r, qq, rfl, hr, gw1⟩; (have hp1 := hpW.grew gw1); (have tp1 := hp1.cell); (have lp1 := hp1.lt); (have fp1 := hp1.frozen); (have xq1 := (X1.grew gw1).cell); (have xl1 := (X1.grew gw1).lt))))
  have hbet := better_ok n p (by omega) h2 Eb E r (sumW XL) va vn vc (.slice sa sn sc) 3 j c (.slice (some ⟨gx, 0, none⟩) n cx) XL w1 hp1 hE hr (fxs _ (hXW.grew gw1)) hXL
  go_upto_region 20 with (first | (go_at_call 211; ((with_reducible refine hbet.mono ?_); rintro e w2 ⟨E2, b1, b2, b3, rfl, hE2, BV, PV⟩)))
  have BwV : But w [p] w2 := (But.gr (Grew.trans g0 gw1)).tr BV
  have zV := BwV.size
  have XV := Box.but2 (X1.grew gw1) BV (by simp; omega)
  have FV : FW w2 gx XL := BV.fw (hXW.grew gw1) (by simp; omega)
  have hSV := keepS hS hnb BwV
  have lSg : (sgL XL).length = n := by rw [sgL_length]; exact hXL
  go_upto_region 21 with (first | (go_at_call 190; ((with_reducible refine (hvc _).mono ?_); rintro e w5 ⟨rfl, gv5⟩)) | (go_at_call 97; ((with_reducible refine (sign_ok n (.slice (some ⟨gx, 0, none⟩) n cx) XL _ (fxs _ (FV.grew (by (show Grew _ _; (try simp only [← Array.append_assoc]); repeat (first | (with_reducible exact Grew.same_o) | (with_reducible exact Grew.refl _) | (with_reducible assumption) | (with_reducible refine Grew.alloc ?_ _) | (with_reducible refine Grew.app_r ?_) | ((with_reducible refine Grew.setCell ?_ ?_ _); rotate_left; (focus (dsimp only; first | omega | (simp only [size_ext, World.size_alloc, Array.size_append]; omega)))) | (with_reducible refine Grew.ext ?_ _ _) | (with_reducible refine Grew.drewN ?_ _) | (with_reducible refine Grew.drew ?_)))))) hXL (by omega) h2).mono ?_); rintro e w3 ⟨sv, rfl, hsv, gs⟩; (have gs2 : Grew w2 w3 := Grew.trans (by (show Grew _ _; (try simp only [← Array.append_assoc]); repeat (first | (with_reducible exact Grew.same_o) | (with_reducible exact Grew.refl _) | (with_reducible assumption) | (with_reducible refine Grew.alloc ?_ _) | (with_reducible refine Grew.app_r ?_) | ((with_reducible refine Grew.setCell ?_ ?_ _); rotate_left; (focus (dsimp only; first | omega | (simp only [size_ext, World.size_alloc, Array.size_append]; omega)))) | (with_reducible refine Grew.ext ?_ _ _) | (with_reducible refine Grew.drewN ?_ _) | (with_reducible refine Grew.drew ?_)))) (show Grew _ _ from gs)))))
  have hp3 := PV.grew gs2
  have XV3 := XV.grew gs2
  have tp3 := hp3.cell
  have lp3 := hp3.lt
  have xv3 := XV3.cell
  have lxv3 := XV3.lt
  have z3 := gs2.below.size
  have BwV3 : But w [p] w3 := BwV.grew gs2
  have eo : FloatKind.f64.format.order r Eb = D64.order (sumW XL) E := hr.order hE
  have hseq : ∀ b, seqF (sgL XL) S = b → Calls Try.prog 212 #[sv, .slice sa sn sc] w3 (fun e w2 => e = .returned (.bool b) ∧ Grew w3 w2) := fun b hb => by
    have := sequal_any sv (.slice sa sn sc) (sgL XL) S w3 hsv (hSV.grew gs2) (by omega)
    rw [hb] at this; exact this
  cases hb : seqF (sgL XL) S
  · have hsq := hseq _ hb
    have hle : fle (sumW XL) E = true := by have := HQ.out; rw [hb] at this; simpa using this
    have e3 : (FloatKind.f64.format.order r Eb == some Ordering.lt || FloatKind.f64.format.order r Eb == some Ordering.eq) = true := by rw [eo]; exact hle
    clear hle eo hseq hb
    go_wp2_with (first | (go_at_call 212; ((with_reducible refine hsq.mono ?_); rintro e w7 ⟨rfl, gw7⟩; (have hp7 := hp3.grew gw7); (have tp7 := hp7.cell); (have lp7 := hp7.lt); (have XV7 := XV3.grew gw7); (have xv7 := XV7.cell); (have lxv7 := XV7.lt))) | (go_at_call 213; ((with_reducible refine (final_ok n p h1 h2 E2 b1 sa b2 b3 sn sc 3 j c _ (hp3.grew (by (show Grew _ _; (try simp only [← Array.append_assoc]); repeat (first | (with_reducible exact Grew.same_o) | (with_reducible exact Grew.refl _) | (with_reducible assumption) | (with_reducible refine Grew.alloc ?_ _) | (with_reducible refine Grew.app_r ?_) | ((with_reducible refine Grew.setCell ?_ ?_ _); rotate_left; (focus (dsimp only; first | omega | (simp only [size_ext, World.size_alloc, Array.size_append]; omega)))) | (with_reducible refine Grew.ext ?_ _ _) | (with_reducible refine Grew.drewN ?_ _) | (with_reducible refine Grew.drew ?_)))))).mono ?_); rintro e w4 ⟨g, rfl, hz, hF, hB, hX2⟩)))
    refine bodyPost_ret (v := .tuple #[.slice (some ⟨g, 0, none⟩) n n, .int .i64 1]) (by simp [results, Try.results189, go_sem, *]) rfl ?_
    have z7 := gw7.below.size
    have BB := (BwV3.grew gw7).tr hB
    exact ⟨fun _ => ⟨g, rfl, by omega, hF⟩, (fun h => by cases h), BB, ⟨E2, b1, b2, b3, sa, sn, sc, hX2, hE2, keepS hS hnb BB, hnb⟩⟩
  · have hsq := hseq _ hb
    clear eo hseq hb
    go_wp2_with (first | (go_at_call 212; ((with_reducible refine hsq.mono ?_); rintro e w7 ⟨rfl, gw7⟩; (have hp7 := hp3.grew gw7); (have tp7 := hp7.cell); (have lp7 := hp7.lt); (have XV7 := XV3.grew gw7); (have xv7 := XV7.cell); (have lxv7 := XV7.lt))) | (go_at_call 213; ((with_reducible refine (final_ok n p h1 h2 E2 b1 sa b2 b3 sn sc 3 j c _ (hp3.grew (by (show Grew _ _; (try simp only [← Array.append_assoc]); repeat (first | (with_reducible exact Grew.same_o) | (with_reducible exact Grew.refl _) | (with_reducible assumption) | (with_reducible refine Grew.alloc ?_ _) | (with_reducible refine Grew.app_r ?_) | ((with_reducible refine Grew.setCell ?_ ?_ _); rotate_left; (focus (dsimp only; first | omega | (simp only [size_ext, World.size_alloc, Array.size_append]; omega)))) | (with_reducible refine Grew.ext ?_ _ _) | (with_reducible refine Grew.drewN ?_ _) | (with_reducible refine Grew.drew ?_)))))).mono ?_); rintro e w4 ⟨g, rfl, hz, hF, hB, hX2⟩)))
    refine bodyPost_ret (v := .tuple #[.slice (some ⟨g, 0, none⟩) n n, .int .i64 1]) (by simp [results, Try.results189, go_sem, *]) rfl ?_
    have z7 := gw7.below.size
    have BB := (BwV3.grew gw7).tr hB
    exact ⟨fun _ => ⟨g, rfl, by omega, hF⟩, (fun h => by cases h), BB, ⟨E2, b1, b2, b3, sa, sn, sc, hX2, hE2, keepS hS hnb BB, hnb⟩⟩
set_option maxRecDepth 100000 in
set_option maxHeartbeats 2000000 in
theorem next_columnS (n p E j c : Nat) (S : List Nat) (h1 : 2 ≤ n) (h2 : n ≤ 12) (w : World) (XL : List Nat) (gx cx : Nat) (hX : FW w gx XL) (hXL : XL.length = n) (ngx : gx ≠ p) (hSl : S.length = n) (hq : (seqF (sgL XL) S || fle (sumW XL) E) = false) (hm : MS w p n ⟨3, E, S, j, c⟩) :
    Calls Try.prog 189 #[.pointer (some ⟨p, 0, none⟩), .slice (some ⟨gx, 0, none⟩) n cx] w (NextPost p n w ⟨4, betterW (sumW XL) E, sgL XL, j, c⟩ (sgL XL) 2) := by
  obtain ⟨Eb, va, vn, vc, sa, sn, sc, hp0, hE, hS, hnb⟩ := hm
  have hp : Box w p #[.int .i64 n, .int .i64 3, .float .f64 Eb, .slice va vn vc, .slice sa sn sc, .int .i64 j, .int .i64 c] := hp0
  have HQ := hid hq
  clear hq
  have fxs : ∀ w', FW w' gx XL → FS w' (.slice (some ⟨gx, 0, none⟩) n cx) XL := fun w' h => by have := h.fs (by omega) cx; rw [hXL] at this; exact this
  have d0 : ((n : Int) == 0) = false := by simp; omega
  have d2 : ((n : Int) != (n : Int)) = false := by simp
  clear hp0
  go_enter Try.func189, Try.ntmps189
  refine seq_stop ?_
  go_wp2
  refine stop_go (fun W hW => ?_)
  have s1 : w.heap.size < W.heap.size := by rw [hW]; simp only [World.size_alloc]; omega
  have b1 : ∀ i, W.cell? ⟨w.heap.size, i, none⟩ = (#[.pointer (some ⟨p, 0, none⟩)] : Array Value)[i]? := by intro i; rw [hW]; go_simp
  have X1 : Box W (w.heap.size) #[.pointer (some ⟨p, 0, none⟩)] := by rw [hW]; exact Box.new' (by first | rfl | (simp only [World.size_alloc]; done) | (simp only [World.size_alloc]; omega))
  have f1 : ∀ i, W.frozen? ⟨w.heap.size, i, none⟩ = false := by intro i; rw [hW]; go_simp
  have g0 : Grew w W := by rw [hW]; exact (Grew.refl _).alloc _
  clear hW
  have hpW := hp.grew g0
  have tp := hpW.cell
  have lpW := hpW.lt
  have lp := hp.lt
  have nq : w.heap.size ≠ p := by omega
  have hXW := hX.grew g0
  have hnv : Calls Try.prog 205 #[.slice (some ⟨gx, 0, none⟩) n cx] W (fun e w2 => ∃ r q, e = .returned (.tuple #[.float .f64 r, .float .f64 q]) ∧ IsF r (sumW XL) ∧ Grew W w2) := nvec_any _ XL W (fxs _ hXW) (by omega)
  have hcl : ∀ w', Grew W w' → Calls Try.prog 208 #[.slice (some ⟨gx, 0, none⟩) n cx] w' (fun e w2 => ∃ a n c, e = .returned (.slice a n c) ∧ Grew w' w2) := fun w' g => sclone_any _ XL w' (fxs _ (hXW.grew g)) (by omega) (by omega)
  have hvc : ∀ w', Calls Try.prog 190 #[.slice (some ⟨gx, 0, none⟩) n cx] w' (fun e w2 => e = .returned (.agg #[.slice (some ⟨gx, 0, none⟩) n cx, .int .i64 0, .int .i64 n, .int .i64 1]) ∧ Grew w' w2) := fun w' => lvec_any _ n cx w'
  clear f1
  go_upto_region 19 with (first | (go_at_call 205; ((with_reducible refine hnv.mono ?_); rintro e w1 ⟨r, qq, rfl, hr, gw1⟩; (have hp1 := hpW.grew gw1); (have tp1 := hp1.cell); (have lp1 := hp1.lt); (have fp1 := hp1.frozen); (have xq1 := (X1.grew gw1).cell); (have xl1 := (X1.grew gw1).lt))))
  have hbet := better_ok n p (by omega) h2 Eb E r (sumW XL) va vn vc (.slice sa sn sc) 3 j c (.slice (some ⟨gx, 0, none⟩) n cx) XL w1 hp1 hE hr (fxs _ (hXW.grew gw1)) hXL
  go_upto_region 20 with (first | (go_at_call 211; ((with_reducible refine hbet.mono ?_); rintro e w2 ⟨E2, b1, b2, b3, rfl, hE2, BV, PV⟩)))
  have BwV : But w [p] w2 := (But.gr (Grew.trans g0 gw1)).tr BV
  have zV := BwV.size
  have XV := Box.but2 (X1.grew gw1) BV (by simp; omega)
  have FV : FW w2 gx XL := BV.fw (hXW.grew gw1) (by simp; omega)
  have hSV := keepS hS hnb BwV
  have lSg : (sgL XL).length = n := by rw [sgL_length]; exact hXL
  go_upto_region 21 with (first | (go_at_call 190; ((with_reducible refine (hvc _).mono ?_); rintro e w5 ⟨rfl, gv5⟩)) | (go_at_call 97; ((with_reducible refine (sign_ok n (.slice (some ⟨gx, 0, none⟩) n cx) XL _ (fxs _ (FV.grew (by (show Grew _ _; (try simp only [← Array.append_assoc]); repeat (first | (with_reducible exact Grew.same_o) | (with_reducible exact Grew.refl _) | (with_reducible assumption) | (with_reducible refine Grew.alloc ?_ _) | (with_reducible refine Grew.app_r ?_) | ((with_reducible refine Grew.setCell ?_ ?_ _); rotate_left; (focus (dsimp only; first | omega | (simp only [size_ext, World.size_alloc, Array.size_append]; omega)))) | (with_reducible refine Grew.ext ?_ _ _) | (with_reducible refine Grew.drewN ?_ _) | (with_reducible refine Grew.drew ?_)))))) hXL (by omega) h2).mono ?_); rintro e w3 ⟨sv, rfl, hsv, gs⟩; (have gs2 : Grew w2 w3 := Grew.trans (by (show Grew _ _; (try simp only [← Array.append_assoc]); repeat (first | (with_reducible exact Grew.same_o) | (with_reducible exact Grew.refl _) | (with_reducible assumption) | (with_reducible refine Grew.alloc ?_ _) | (with_reducible refine Grew.app_r ?_) | ((with_reducible refine Grew.setCell ?_ ?_ _); rotate_left; (focus (dsimp only; first | omega | (simp only [size_ext, World.size_alloc, Array.size_append]; omega)))) | (with_reducible refine Grew.ext ?_ _ _) | (with_reducible refine Grew.drewN ?_ _) | (with_reducible refine Grew.drew ?_)))) (show Grew _ _ from gs)))))
  have hp3 := PV.grew gs2
  have XV3 := XV.grew gs2
  have tp3 := hp3.cell
  have lp3 := hp3.lt
  have xv3 := XV3.cell
  have lxv3 := XV3.lt
  have z3 := gs2.below.size
  have BwV3 : But w [p] w3 := BwV.grew gs2
  have eo : FloatKind.f64.format.order r Eb = D64.order (sumW XL) E := hr.order hE
  have hseq : ∀ b, seqF (sgL XL) S = b → Calls Try.prog 212 #[sv, .slice sa sn sc] w3 (fun e w2 => e = .returned (.bool b) ∧ Grew w3 w2) := fun b hb => by
    have := sequal_any sv (.slice sa sn sc) (sgL XL) S w3 hsv (hSV.grew gs2) (by omega)
    rw [hb] at this; exact this
  have hb : seqF (sgL XL) S = false := by have := HQ.out; simp at this; exact this.1
  have hle : fle (sumW XL) E = false := by have := HQ.out; simp at this; exact this.2
  have hsq := hseq _ hb
  have e3 : (FloatKind.f64.format.order r Eb == some Ordering.lt || FloatKind.f64.format.order r Eb == some Ordering.eq) = false := by rw [eo]; exact hle
  have FV3 := FV.grew gs2
  clear hle eo hseq hb
  go_wp2_with (first | (go_at_call 212; ((with_reducible refine hsq.mono ?_); rintro e w7 ⟨rfl, gw7⟩; (have hp7 := hp3.grew gw7); (have tp7 := hp7.cell); (have lp7 := hp7.lt); (have XV7 := XV3.grew gw7); (have xv7 := XV7.cell); (have lxv7 := XV7.lt))) | (go_at_call 209; ((with_reducible refine (signs_ok n p h1 h2 E2 b1 sa b2 b3 sn sc 3 4 j c (.slice (some ⟨gx, 0, none⟩) n cx) XL _ (hp3.grew (by (show Grew _ _; (try simp only [← Array.append_assoc]); repeat (first | (with_reducible exact Grew.same_o) | (with_reducible exact Grew.refl _) | (with_reducible assumption) | (with_reducible refine Grew.alloc ?_ _) | (with_reducible refine Grew.app_r ?_) | ((with_reducible refine Grew.setCell ?_ ?_ _); rotate_left; (focus (dsimp only; first | omega | (simp only [size_ext, World.size_alloc, Array.size_append]; omega)))) | (with_reducible refine Grew.ext ?_ _ _) | (with_reducible refine Grew.drewN ?_ _) | (with_reducible refine Grew.drew ?_))))) (fxs _ (FV3.grew (by (show Grew _ _; (try simp only [← Array.append_assoc]); repeat (first | (with_reducible exact Grew.same_o) | (with_reducible exact Grew.refl _) | (with_reducible assumption) | (with_reducible refine Grew.alloc ?_ _) | (with_reducible refine Grew.app_r ?_) | ((with_reducible refine Grew.setCell ?_ ?_ _); rotate_left; (focus (dsimp only; first | omega | (simp only [size_ext, World.size_alloc, Array.size_append]; omega)))) | (with_reducible refine Grew.ext ?_ _ _) | (with_reducible refine Grew.drewN ?_ _) | (with_reducible refine Grew.drew ?_)))))) hXL).mono ?_); rintro e w4 ⟨g, ta, tn, tc, rfl, hz, hF, hB, hX2, hS2, hnb2⟩)))
  refine bodyPost_ret (v := .tuple #[.slice (some ⟨g, 0, none⟩) n n, .int .i64 2]) (by simp [results, Try.results189, go_sem, *]) rfl ?_
  have z7 := gw7.below.size
  have BB := (BwV3.grew gw7).tr hB
  exact ⟨fun _ => ⟨g, rfl, by omega, hF⟩, (fun h => by cases h), BB, ⟨E2, b1, b2, b3, ta, tn, tc, hX2, hE2, hS2, hnb2⟩⟩
end Go.Proofs.Ytcmggfpcbijcjaa
end
