/-
  Contracts: resid.Rest's closures; the rows of a fold.
-/
import Derived.Test.YtcmggfpcbijcjaaBnd
import Derived.Test.YtcmggfpcbijcjaaTrsv1
import Derived.Test.YtcmggfpcbijcjaaGer1
set_option linter.unusedSimpArgs false
set_option linter.unusedVariables false
open Go Go.RowKit Sedge
namespace Go.Proofs.Ytcmggfpcbijcjaa
set_option maxRecDepth 100000 in
theorem rc1_any (i T : Nat) (Y : Value) (L : List Nat) (w : World) (hT : ∀ i, w.cell? ⟨T, i, none⟩ = (#[Y] : Array Value)[i]?) (hY : FS w Y L) (hi : i < L.length) :
   Calls Try.prog 167 #[.int .i64 i, .pointer (some ⟨T, 0, none⟩)] w (fun e w' => ∃ r, e = .returned (.float .f64 r) ∧ IsF r (L.getD i 0) ∧ ∃ o n, w' = ext w o n) := by
  obtain ⟨blk, o, cap, rfl, hb, hc⟩ := hY.open (by omega)
  obtain ⟨b, hb0, hf⟩ := hc i hi
  clear hc
  go_enter Try.func167, Try.ntmps167
  go_wp2
  go_ret
  exact ⟨b, rfl, hf, #[], w.drawn, ext_zero.symm⟩
set_option maxRecDepth 100000 in
theorem rc3_any (i T : Nat) (Y : Value) (L : List Nat) (w : World) (hT : ∀ i, w.cell? ⟨T, i, none⟩ = (#[Y] : Array Value)[i]?) (hY : FS w Y L) (hi : i < L.length) :
   Calls Try.prog 169 #[.int .i64 i, .pointer (some ⟨T, 0, none⟩)] w (fun e w' => ∃ r, e = .returned (.float .f64 r) ∧ IsF r (fabs (L.getD i 0)) ∧ ∃ o n, w' = ext w o n) := by
  obtain ⟨blk, o, cap, rfl, hb, hc⟩ := hY.open (by omega)
  obtain ⟨b, hb0, hf⟩ := hc i hi
  clear hc
  go_enter Try.func169, Try.ntmps169
  go_wp2_with (first | (go_at_call 164; ((with_reducible refine (mabs_any b _ _ hf).mono ?_); rintro e w1 ⟨ra, rfl, hra, rfl⟩)))
  go_ret
  exact ⟨ra, rfl, hra, #[], w.drawn, ext_zero.symm⟩
set_option maxRecDepth 100000 in
theorem rc2_any (s S a A j T : Nat) (X : Value) (L : List Nat) (w : World) (hs : IsF s S) (ha : IsF a A) (hT : ∀ i, w.cell? ⟨T, i, none⟩ = (#[X] : Array Value)[i]?) (hX : FS w X L) (hj : j < L.length) :
   Calls Try.prog 168 #[.float .f64 s, .float .f64 a, .int .i64 j, .pointer (some ⟨T, 0, none⟩)] w (fun e w' => ∃ r, e = .returned (.float .f64 r) ∧ IsF r (fsub S (fmul A (L.getD j 0))) ∧ ∃ o n, w' = ext w o n) := by
  obtain ⟨blk, o, cap, rfl, hb, hc⟩ := hX.open (by omega)
  obtain ⟨b, hb0, hf⟩ := hc j hj
  clear hc
  go_enter Try.func168, Try.ntmps168
  go_wp2_with ((with_reducible refine upon_id ?_); refine upon_fop rfl (by assumption) (by assumption) ?_; intro rr nn hr)
  go_ret
  exact ⟨_, rfl, hr, _, _, drewN_ext0 _⟩
set_option maxRecDepth 100000 in
theorem rc4_any (s S a A j T : Nat) (X : Value) (L : List Nat) (w : World) (hs : IsF s S) (ha : IsF a A) (hT : ∀ i, w.cell? ⟨T, i, none⟩ = (#[X] : Array Value)[i]?) (kT : T < w.heap.size) (hX : FS w X L) (hj : j < L.length) :
   Calls Try.prog 170 #[.float .f64 s, .float .f64 a, .int .i64 j, .pointer (some ⟨T, 0, none⟩)] w (fun e w' => ∃ r, e = .returned (.float .f64 r) ∧ IsF r (fadd S (fmul (fabs A) (fabs (L.getD j 0)))) ∧ ∃ o n, w' = ext w o n) := by
  obtain ⟨blk, o, cap, rfl, hb, hc⟩ := hX.open (by omega)
  obtain ⟨b, hb0, hf⟩ := hc j hj
  clear hc
  go_enter Try.func170, Try.ntmps170
  go_wp2
  refine wp_region_R (Grew w) [] [(0,0), (0,1), (0,3), (0,4), (0,5), (0,6), (1,2), (1,7), (1,8), (1,9), (0,10)] (by kernel_rfl) (by kernel_rfl) (fun _ _ _ _ h _ => h) (by first | exact ⟨_, _, ext_drew⟩ | exact ⟨_, _, drew_ext0⟩) ?_
  go_wp2_with (first | ((with_reducible refine wpR_id ?_); first | (refine wpR_take (v := ?_) rfl rfl ?_ ?_; rotate_left; (focus (rintro w' ⟨o', n', rfl⟩; go_simp; try with_reducible rfl)); simp only [Act.put, List.setIfInBounds_toArray, List.set_cons_zero, List.set_cons_succ]) | (refine wpR_pure (v := ?_) rfl rfl ?_ ?_; rotate_left; (focus (intro w'; go_simp; try with_reducible rfl)); simp only [Act.put, List.setIfInBounds_toArray, List.set_cons_zero, List.set_cons_succ]) | (refine wpR_takeG (v := ?_) rfl rfl rfl rfl rfl ?_ ?_; rotate_left; (focus (rintro w' ⟨o', n', rfl⟩; go_simp; try with_reducible rfl)); simp only [Act.put, List.setIfInBounds_toArray, List.set_cons_zero, List.set_cons_succ]) | (refine wpR_skip rfl rfl rfl rfl rfl rfl ?_; simp only [Act.put, List.setIfInBounds_toArray, List.set_cons_zero, List.set_cons_succ]) | (refine wpR_skipU rfl rfl rfl rfl rfl ?_; simp only [Act.put, List.setIfInBounds_toArray, List.set_cons_zero, List.set_cons_succ]) | (refine wpR_do rfl rfl (fun K hK => ?_)) | (refine wpR_doG rfl rfl rfl rfl rfl (fun K hK => ?_)) | (refine wpR_last rfl rfl (fun K hK => ?_)) | (refine wpR_nil ?_)) | ((with_reducible refine wpR_go ?_ ?_); (focus (show Grew _ _; repeat (first | (with_reducible exact Grew.refl _) | (with_reducible assumption) | (with_reducible refine Grew.ext ?_ _ _) | (with_reducible refine Grew.alloc ?_ _) | ((with_reducible refine Grew.setCell ?_ ?_ _); rotate_left; (focus (dsimp only; first | omega | (simp only [size_ext, World.size_alloc, Array.size_append]; omega)))) | (with_reducible refine Grew.drewN ?_ _) | (with_reducible refine Grew.drew ?_))))) | ((with_reducible refine upon_id ?_); refine upon_fop rfl (by assumption) (by assumption) ?_; intro rr nn hr) | (go_at_call 164; ((with_reducible refine (mabs_any a _ _ ha).mono ?_); rintro e w1 ⟨ra, rfl, hra, rfl⟩)) | (go_at_call 164; ((with_reducible refine (mabs_any b _ _ hf).mono ?_); rintro e w1 ⟨rb, rfl, hrb, rfl⟩)))
  go_ret
  exact ⟨_, rfl, hr, by (show Grew _ _; repeat (first | (with_reducible exact Grew.refl _) | (with_reducible assumption) | (with_reducible refine Grew.ext ?_ _ _) | (with_reducible refine Grew.alloc ?_ _) | ((with_reducible refine Grew.setCell ?_ ?_ _); rotate_left; (focus (dsimp only; first | omega | (simp only [size_ext, World.size_alloc, Array.size_append]; omega)))) | (with_reducible refine Grew.drewN ?_ _) | (with_reducible refine Grew.drew ?_)))⟩
theorem ownF_mono {e : TypeId} {w : World} {B B' : Nat} {v : Value} {xs : List Nat} (h : OwnF e w B v xs) (hB : B' ≤ B) : OwnF e w B' v xs := by
  obtain ⟨bs, ⟨h0, h1⟩, h2, h3⟩ := h
  refine ⟨bs, ⟨h0, ?_⟩, h2, h3⟩
  rcases h1 with h1 | ⟨gg, cap, cur, hv, hB1, hh, r⟩
  · exact .inl h1
  · exact .inr ⟨gg, cap, cur, hv, Nat.le_trans hB hB1, hh, r⟩
def accR (F : Nat → Nat) (G : Nat → Nat → Nat → Nat) (A : Nat → Nat → Nat) (i : Nat) : Nat → Nat
  | 0 => F i
  | j + 1 => G (accR F G A i j) (A i j) j
def rowsTo (F : Nat → Nat) (G : Nat → Nat → Nat → Nat) (A : Nat → Nat → Nat) (C i : Nat) : List Nat := (List.range i).map fun r => accR F G A r C
theorem rowsTo_succ (F : Nat → Nat) (G : Nat → Nat → Nat → Nat) (A : Nat → Nat → Nat) (C i : Nat) : rowsTo F G A C (i + 1) = rowsTo F G A C i ++ [accR F G A i C] := by unfold rowsTo; rw [List.range_succ, List.map_append]; rfl
theorem rowsTo_length (F : Nat → Nat) (G : Nat → Nat → Nat → Nat) (A : Nat → Nat → Nat) (C i : Nat) : (rowsTo F G A C i).length = i := by simp [rowsTo]
set_option maxRecDepth 100000 in
set_option maxHeartbeats 2000000 in
/-- resid's fold.rows. -/
theorem rowsA_any (F : Nat → Nat) (G : Nat → Nat → Nat → Nat) (m : MatM) (D : Value) (P1 P2 : Value) (w : World) (hD : FS w D m.ws) (hm : m.good = true) (hwm : m.wf) (hl : m.ws.length ≤ 1000000) (hrr : m.rows ≤ 1000) (hcc : m.cols ≤ 1000)
    (h1 : ∀ (i : Nat) w', (i : Int) < m.rows → Grew w w' → Calls Try.prog 167 #[.int .i64 i, P1] w' (fun e w2 => ∃ r, e = .returned (.float .f64 r) ∧ IsF r (F i) ∧ ∃ o n, w2 = ext w' o n))
    (h2 : ∀ (s S a A j : Nat) w', IsF s S → IsF a A → (j : Int) < m.cols → Grew w w' → Calls Try.prog 168 #[.float .f64 s, .float .f64 a, .int .i64 j, P2] w' (fun e w2 => ∃ r, e = .returned (.float .f64 r) ∧ IsF r (G S A j) ∧ ∃ o n, w2 = ext w' o n)) :
   Calls Try.prog 171 #[.agg #[.func (.func 167) #[] #[P1], .func (.func 168) #[] #[P2]], .agg #[D, .int .i64 m.off, .int .i64 m.rows, .int .i64 m.cols, .int .i64 m.ld]] w
     (fun e w' => ∃ v, e = .returned v ∧ OwnF 22 w' w.heap.size v (rowsTo F G m.num m.cols.toNat m.rows.toNat) ∧ ∃ o n, w' = ext w o n) := by
  have hn := MatM.good_n hm
  have Hm := hid hm
  have Hw := hid hwm
  have hat : ∀ (i j : Nat) w', FS w' D m.ws → (i : Int) < m.rows → (j : Int) < m.cols → Calls Try.prog 186 #[.agg #[D, .int .i64 m.off, .int .i64 m.rows, .int .i64 m.cols, .int .i64 m.ld], .int .i64 i, .int .i64 j] w' (fun e w2 => ∃ b, e = .returned (.float .f64 b) ∧ IsF b (m.num i j) ∧ ∃ o n, w2 = ext w' o n) := fun i j w' h hi hj => vat_any m D i j w' h Hm.out Hw.out hi hj hl
  clear hm hwm
  go_enter Try.func171, Try.ntmps171
  refine seq_stop ?_
  go_wp2
  refine stop_go (fun W hW => ?_)
  have s1 : w.heap.size < W.heap.size := by rw [hW]; simp only [World.size_alloc]; omega
  have b1 : ∀ i, W.cell? ⟨w.heap.size, i, none⟩ = (#[.func (.func 167) #[] #[P1], .func (.func 168) #[] #[P2]] : Array Value)[i]? := by intro i; rw [hW]; go_simp
  have s2 : w.heap.size + 1 < W.heap.size := by rw [hW]; simp only [World.size_alloc]; omega
  have b2 : ∀ i, W.cell? ⟨w.heap.size + 1, i, none⟩ = (#[D, .int .i64 m.off, .int .i64 m.rows, .int .i64 m.cols, .int .i64 m.ld] : Array Value)[i]? := by intro i; rw [hW]; go_simp
  have g0 : Grew w W := by rw [hW]; exact ((Grew.refl _).alloc _).alloc _
  clear hW
  have hDW := hD.grew g0
  have z0 := g0.below.size
  go_wp2
  go_loopw [5, 11] (fun v c wr => ∃ (i : Nat) (o : Array Obj) (n : Nat), (i : Int) ≤ m.rows ∧ c = .int .i64 i ∧ wr = ext W o n ∧ OwnF 22 wr W.heap.size v (rowsTo F G m.num m.cols.toNat i)) (fun _ c _ => (m.rows - intOf c).toNat)
  case atStart => exact ⟨0, #[], _, hn.1, rfl, ext_zero.symm, by simpa [rowsTo] using OwnF.nil _ _ _⟩
  case round =>
    obtain ⟨i, o3, n3, hi, rfl, hwr, hown⟩ := hrel
    have gw : Grew W wr := ⟨_, _, hwr⟩
    have gww : Grew w wr := Grew.trans g0 gw
    have zr := gw.below.size
    clear hwr
    have t1 : ∀ i, wr.cell? ⟨w.heap.size, i, none⟩ = (#[.func (.func 167) #[] #[P1], .func (.func 168) #[] #[P2]] : Array Value)[i]? := fun i => (gw.cell s1).trans (b1 i)
    have t2 : ∀ i, wr.cell? ⟨w.heap.size + 1, i, none⟩ = (#[D, .int .i64 m.off, .int .i64 m.rows, .int .i64 m.cols, .int .i64 m.ld] : Array Value)[i]? := fun i => (gw.cell s2).trans (b2 i)
    have k1 : w.heap.size < wr.heap.size := by omega
    have k2 : w.heap.size + 1 < wr.heap.size := by omega
    have hDr := hDW.grew gw
    by_cases hlt : (i : Int) < m.rows
    · have hll : (rowsTo F G m.num m.cols.toNat i).length = i := rowsTo_length _ _ _ _ _
      have h1i := fun w' => h1 i w' hlt
      go_wp2_with (first | (go_at_call 167; ((with_reducible refine (h1i _ (Grew.trans gww (by (show Grew _ _; repeat (first | (with_reducible exact Grew.refl _) | (with_reducible assumption) | (with_reducible refine Grew.ext ?_ _ _) | (with_reducible refine Grew.alloc ?_ _) | ((with_reducible refine Grew.setCell ?_ ?_ _); rotate_left; (focus (dsimp only; first | omega | (simp only [size_ext, World.size_alloc, Array.size_append]; omega)))) | (with_reducible refine Grew.drewN ?_ _) | (with_reducible refine Grew.drew ?_)))))).mono ?_); rintro e w1 ⟨r0, rfl, hr0, o1, n1, rfl⟩)))
      go_loopw [7, 20] (fun a c wr2 => ∃ (j s : Nat) (o : Array Obj) (n : Nat), (j : Int) ≤ m.cols ∧ c = .int .i64 j ∧ a = .float .f64 s ∧ IsF s (accR F G m.num i j) ∧ wr2 = ext wr o n) (fun _ c _ => (m.cols - intOf c).toNat)
      case atStart => exact ⟨0, r0, o1, n1, hn.2.1, rfl, rfl, hr0, rfl⟩
      case round =>
        obtain ⟨j, s, o4, n4, hj, rfl, rfl, hs, hwr2⟩ := hrel
        subst hwr2
        by_cases hlj : (j : Int) < m.cols
        · have Hlj := hid hlj
          have h2j := fun (s S a A : Nat) w' p q => h2 s S a A j w' p q hlj
          have hatj := fun w' p => hat i j w' p hlt hlj
          go_wp2
          refine wp_region_R (Grew wr) [] [(0,0), (0,1), (0,2), (0,3), (0,4), (0,5), (0,7), (1,6), (1,8), (0,9)] (by kernel_rfl) (by kernel_rfl) (fun _ _ _ _ h _ => h) (by first | exact ⟨_, _, ext_drew⟩ | exact ⟨_, _, drew_ext0⟩) ?_
          go_wp2_with (first | ((with_reducible refine wpR_id ?_); first | (refine wpR_take (v := ?_) rfl rfl ?_ ?_; rotate_left; (focus (rintro w' ⟨o', n', rfl⟩; go_simp; try with_reducible rfl)); simp only [Act.put, List.setIfInBounds_toArray, List.set_cons_zero, List.set_cons_succ]) | (refine wpR_pure (v := ?_) rfl rfl ?_ ?_; rotate_left; (focus (intro w'; go_simp; try with_reducible rfl)); simp only [Act.put, List.setIfInBounds_toArray, List.set_cons_zero, List.set_cons_succ]) | (refine wpR_takeG (v := ?_) rfl rfl rfl rfl rfl ?_ ?_; rotate_left; (focus (rintro w' ⟨o', n', rfl⟩; go_simp; try with_reducible rfl)); simp only [Act.put, List.setIfInBounds_toArray, List.set_cons_zero, List.set_cons_succ]) | (refine wpR_skip rfl rfl rfl rfl rfl rfl ?_; simp only [Act.put, List.setIfInBounds_toArray, List.set_cons_zero, List.set_cons_succ]) | (refine wpR_skipU rfl rfl rfl rfl rfl ?_; simp only [Act.put, List.setIfInBounds_toArray, List.set_cons_zero, List.set_cons_succ]) | (refine wpR_do rfl rfl (fun K hK => ?_)) | (refine wpR_doG rfl rfl rfl rfl rfl (fun K hK => ?_)) | (refine wpR_last rfl rfl (fun K hK => ?_)) | (refine wpR_nil ?_)) | ((with_reducible refine wpR_go ?_ ?_); (focus exact ⟨_, _, rfl⟩)) | ((with_reducible refine upon_id ?_); refine upon_fop rfl (by assumption) (by assumption) ?_; intro rr nn hr) | (go_at_call 186; ((with_reducible refine (hatj _ ?_).mono ?_); (focus (first | (with_reducible assumption) | (with_reducible refine FS.ext ?_ _ _; with_reducible assumption) | (with_reducible refine IS.ext ?_ _ _; with_reducible assumption) | (refine hDu _ ?_; with_reducible assumption) | (refine hOu _ ?_; with_reducible assumption) | (refine hDa _ ?_; with_reducible assumption) | (refine hDb _ ?_; with_reducible assumption) | (refine hDc _ ?_; with_reducible assumption) | (refine hDd _ ?_; with_reducible assumption) | (refine FW.fs ?_ (by omega) _; with_reducible assumption) | (refine WS.fs ?_; with_reducible assumption) | (refine FW.fs ?_ (by omega) _; assumption) | omega | assumption)); rintro e w1 ⟨ra, rfl, hra, o5, n5, rfl⟩)) | (go_at_call 168; ((with_reducible refine (h2j s _ ra _ _ hs hra (Grew.trans gww (by (show Grew _ _; repeat (first | (with_reducible exact Grew.refl _) | (with_reducible assumption) | (with_reducible refine Grew.ext ?_ _ _) | (with_reducible refine Grew.alloc ?_ _) | ((with_reducible refine Grew.setCell ?_ ?_ _); rotate_left; (focus (dsimp only; first | omega | (simp only [size_ext, World.size_alloc, Array.size_append]; omega)))) | (with_reducible refine Grew.drewN ?_ _) | (with_reducible refine Grew.drew ?_)))))).mono ?_); rintro e w1 ⟨rs, rfl, hrs, o6, n6, rfl⟩)))
          go_roundw
          case rel => exact ⟨j + 1, rs, _, _, by (have := Hlj.out; omega), by go_num, rfl, hrs, rfl⟩
          case measure => (have := Hlj.out; simp [intOf]; omega)
        · have e : j = m.cols.toNat := by omega
          have hs' : IsF s (accR F G m.num i m.cols.toNat) := by rw [← e]; exact hs
          go_wp2_with (first | (at_builtin; refine append1_f (W := W) (v := u5) (xs := rowsTo F G m.num m.cols.toNat i) (y := accR F G m.num i m.cols.toNat) finfo ?_ ?_ ?_ ((by rw [hll]; omega)) _ _ rfl rfl rfl ?_ rfl ?_; (focus (refine Grew.trans gw ?_; (show Grew _ _; repeat (first | (with_reducible exact Grew.refl _) | (with_reducible assumption) | (with_reducible refine Grew.ext ?_ _ _) | (with_reducible refine Grew.alloc ?_ _) | ((with_reducible refine Grew.setCell ?_ ?_ _); rotate_left; (focus (dsimp only; first | omega | (simp only [size_ext, World.size_alloc, Array.size_append]; omega)))) | (with_reducible refine Grew.drewN ?_ _) | (with_reducible refine Grew.drew ?_))))); (focus (refine OwnF.grew (w := wr) ?_ ?_; (focus (with_reducible assumption)); (focus (show Grew _ _; repeat (first | (with_reducible exact Grew.refl _) | (with_reducible assumption) | (with_reducible refine Grew.ext ?_ _ _) | (with_reducible refine Grew.alloc ?_ _) | ((with_reducible refine Grew.setCell ?_ ?_ _); rotate_left; (focus (dsimp only; first | omega | (simp only [size_ext, World.size_alloc, Array.size_append]; omega)))) | (with_reducible refine Grew.drewN ?_ _) | (with_reducible refine Grew.drew ?_)))))); (focus (exact hs')); (focus (first | rfl | (simp only [size_ext, World.size_alloc, Array.size_append]; done) | (simp only [size_ext, World.size_alloc, Array.size_append]; omega))); intro v oo nn ho hn))
          go_roundw
          case rel => exact ⟨i + 1, oo, nn, by omega, by go_num, rfl, by rw [rowsTo_succ]; exact ho⟩
          case measure => simp [intOf]; omega
    · have e : i = m.rows.toNat := by omega
      subst e
      go_wp2
      go_ret
      exact ⟨_, rfl, ownF_mono hown z0, gww⟩
set_option maxRecDepth 100000 in
set_option maxHeartbeats 2000000 in
/-- resid's fold.rows. -/
theorem rowsB_any (F : Nat → Nat) (G : Nat → Nat → Nat → Nat) (m : MatM) (D : Value) (P1 P2 : Value) (w : World) (hD : FS w D m.ws) (hm : m.good = true) (hwm : m.wf) (hl : m.ws.length ≤ 1000000) (hrr : m.rows ≤ 1000) (hcc : m.cols ≤ 1000)
    (h1 : ∀ (i : Nat) w', (i : Int) < m.rows → Grew w w' → Calls Try.prog 169 #[.int .i64 i, P1] w' (fun e w2 => ∃ r, e = .returned (.float .f64 r) ∧ IsF r (F i) ∧ ∃ o n, w2 = ext w' o n))
    (h2 : ∀ (s S a A j : Nat) w', IsF s S → IsF a A → (j : Int) < m.cols → Grew w w' → Calls Try.prog 170 #[.float .f64 s, .float .f64 a, .int .i64 j, P2] w' (fun e w2 => ∃ r, e = .returned (.float .f64 r) ∧ IsF r (G S A j) ∧ ∃ o n, w2 = ext w' o n)) :
   Calls Try.prog 171 #[.agg #[.func (.func 169) #[] #[P1], .func (.func 170) #[] #[P2]], .agg #[D, .int .i64 m.off, .int .i64 m.rows, .int .i64 m.cols, .int .i64 m.ld]] w
     (fun e w' => ∃ v, e = .returned v ∧ OwnF 22 w' w.heap.size v (rowsTo F G m.num m.cols.toNat m.rows.toNat) ∧ ∃ o n, w' = ext w o n) := by
  have hn := MatM.good_n hm
  have Hm := hid hm
  have Hw := hid hwm
  have hat : ∀ (i j : Nat) w', FS w' D m.ws → (i : Int) < m.rows → (j : Int) < m.cols → Calls Try.prog 186 #[.agg #[D, .int .i64 m.off, .int .i64 m.rows, .int .i64 m.cols, .int .i64 m.ld], .int .i64 i, .int .i64 j] w' (fun e w2 => ∃ b, e = .returned (.float .f64 b) ∧ IsF b (m.num i j) ∧ ∃ o n, w2 = ext w' o n) := fun i j w' h hi hj => vat_any m D i j w' h Hm.out Hw.out hi hj hl
  clear hm hwm
  go_enter Try.func171, Try.ntmps171
  refine seq_stop ?_
  go_wp2
  refine stop_go (fun W hW => ?_)
  have s1 : w.heap.size < W.heap.size := by rw [hW]; simp only [World.size_alloc]; omega
  have b1 : ∀ i, W.cell? ⟨w.heap.size, i, none⟩ = (#[.func (.func 169) #[] #[P1], .func (.func 170) #[] #[P2]] : Array Value)[i]? := by intro i; rw [hW]; go_simp
  have s2 : w.heap.size + 1 < W.heap.size := by rw [hW]; simp only [World.size_alloc]; omega
  have b2 : ∀ i, W.cell? ⟨w.heap.size + 1, i, none⟩ = (#[D, .int .i64 m.off, .int .i64 m.rows, .int .i64 m.cols, .int .i64 m.ld] : Array Value)[i]? := by intro i; rw [hW]; go_simp
  have g0 : Grew w W := by rw [hW]; exact ((Grew.refl _).alloc _).alloc _
  clear hW
  have hDW := hD.grew g0
  have z0 := g0.below.size
  go_wp2
  go_loopw [5, 11] (fun v c wr => ∃ (i : Nat) (o : Array Obj) (n : Nat), (i : Int) ≤ m.rows ∧ c = .int .i64 i ∧ wr = ext W o n ∧ OwnF 22 wr W.heap.size v (rowsTo F G m.num m.cols.toNat i)) (fun _ c _ => (m.rows - intOf c).toNat)
  case atStart => exact ⟨0, #[], _, hn.1, rfl, ext_zero.symm, by simpa [rowsTo] using OwnF.nil _ _ _⟩
  case round =>
    obtain ⟨i, o3, n3, hi, rfl, hwr, hown⟩ := hrel
    have gw : Grew W wr := ⟨_, _, hwr⟩
    have gww : Grew w wr := Grew.trans g0 gw
    have zr := gw.below.size
    clear hwr
    have t1 : ∀ i, wr.cell? ⟨w.heap.size, i, none⟩ = (#[.func (.func 169) #[] #[P1], .func (.func 170) #[] #[P2]] : Array Value)[i]? := fun i => (gw.cell s1).trans (b1 i)
    have t2 : ∀ i, wr.cell? ⟨w.heap.size + 1, i, none⟩ = (#[D, .int .i64 m.off, .int .i64 m.rows, .int .i64 m.cols, .int .i64 m.ld] : Array Value)[i]? := fun i => (gw.cell s2).trans (b2 i)
    have k1 : w.heap.size < wr.heap.size := by omega
    have k2 : w.heap.size + 1 < wr.heap.size := by omega
    have hDr := hDW.grew gw
    by_cases hlt : (i : Int) < m.rows
    · have hll : (rowsTo F G m.num m.cols.toNat i).length = i := rowsTo_length _ _ _ _ _
      have h1i := fun w' => h1 i w' hlt
      go_wp2_with (first | (go_at_call 169; ((with_reducible refine (h1i _ (Grew.trans gww (by (show Grew _ _; repeat (first | (with_reducible exact Grew.refl _) | (with_reducible assumption) | (with_reducible refine Grew.ext ?_ _ _) | (with_reducible refine Grew.alloc ?_ _) | ((with_reducible refine Grew.setCell ?_ ?_ _); rotate_left; (focus (dsimp only; first | omega | (simp only [size_ext, World.size_alloc, Array.size_append]; omega)))) | (with_reducible refine Grew.drewN ?_ _) | (with_reducible refine Grew.drew ?_)))))).mono ?_); rintro e w1 ⟨r0, rfl, hr0, o1, n1, rfl⟩)))
      go_loopw [7, 20] (fun a c wr2 => ∃ (j s : Nat) (o : Array Obj) (n : Nat), (j : Int) ≤ m.cols ∧ c = .int .i64 j ∧ a = .float .f64 s ∧ IsF s (accR F G m.num i j) ∧ wr2 = ext wr o n) (fun _ c _ => (m.cols - intOf c).toNat)
      case atStart => exact ⟨0, r0, o1, n1, hn.2.1, rfl, rfl, hr0, rfl⟩
      case round =>
        obtain ⟨j, s, o4, n4, hj, rfl, rfl, hs, hwr2⟩ := hrel
        subst hwr2
        by_cases hlj : (j : Int) < m.cols
        · have Hlj := hid hlj
          have h2j := fun (s S a A : Nat) w' p q => h2 s S a A j w' p q hlj
          have hatj := fun w' p => hat i j w' p hlt hlj
          go_wp2
          refine wp_region_R (Grew wr) [] [(0,0), (0,1), (0,2), (0,3), (0,4), (0,5), (0,7), (1,6), (1,8), (0,9)] (by kernel_rfl) (by kernel_rfl) (fun _ _ _ _ h _ => h) (by first | exact ⟨_, _, ext_drew⟩ | exact ⟨_, _, drew_ext0⟩) ?_
          go_wp2_with (first | ((with_reducible refine wpR_id ?_); first | (refine wpR_take (v := ?_) rfl rfl ?_ ?_; rotate_left; (focus (rintro w' ⟨o', n', rfl⟩; go_simp; try with_reducible rfl)); simp only [Act.put, List.setIfInBounds_toArray, List.set_cons_zero, List.set_cons_succ]) | (refine wpR_pure (v := ?_) rfl rfl ?_ ?_; rotate_left; (focus (intro w'; go_simp; try with_reducible rfl)); simp only [Act.put, List.setIfInBounds_toArray, List.set_cons_zero, List.set_cons_succ]) | (refine wpR_takeG (v := ?_) rfl rfl rfl rfl rfl ?_ ?_; rotate_left; (focus (rintro w' ⟨o', n', rfl⟩; go_simp; try with_reducible rfl)); simp only [Act.put, List.setIfInBounds_toArray, List.set_cons_zero, List.set_cons_succ]) | (refine wpR_skip rfl rfl rfl rfl rfl rfl ?_; simp only [Act.put, List.setIfInBounds_toArray, List.set_cons_zero, List.set_cons_succ]) | (refine wpR_skipU rfl rfl rfl rfl rfl ?_; simp only [Act.put, List.setIfInBounds_toArray, List.set_cons_zero, List.set_cons_succ]) | (refine wpR_do rfl rfl (fun K hK => ?_)) | (refine wpR_doG rfl rfl rfl rfl rfl (fun K hK => ?_)) | (refine wpR_last rfl rfl (fun K hK => ?_)) | (refine wpR_nil ?_)) | ((with_reducible refine wpR_go ?_ ?_); (focus exact ⟨_, _, rfl⟩)) | ((with_reducible refine upon_id ?_); refine upon_fop rfl (by assumption) (by assumption) ?_; intro rr nn hr) | (go_at_call 186; ((with_reducible refine (hatj _ ?_).mono ?_); (focus (first | (with_reducible assumption) | (with_reducible refine FS.ext ?_ _ _; with_reducible assumption) | (with_reducible refine IS.ext ?_ _ _; with_reducible assumption) | (refine hDu _ ?_; with_reducible assumption) | (refine hOu _ ?_; with_reducible assumption) | (refine hDa _ ?_; with_reducible assumption) | (refine hDb _ ?_; with_reducible assumption) | (refine hDc _ ?_; with_reducible assumption) | (refine hDd _ ?_; with_reducible assumption) | (refine FW.fs ?_ (by omega) _; with_reducible assumption) | (refine WS.fs ?_; with_reducible assumption) | (refine FW.fs ?_ (by omega) _; assumption) | omega | assumption)); rintro e w1 ⟨ra, rfl, hra, o5, n5, rfl⟩)) | (go_at_call 170; ((with_reducible refine (h2j s _ ra _ _ hs hra (Grew.trans gww (by (show Grew _ _; repeat (first | (with_reducible exact Grew.refl _) | (with_reducible assumption) | (with_reducible refine Grew.ext ?_ _ _) | (with_reducible refine Grew.alloc ?_ _) | ((with_reducible refine Grew.setCell ?_ ?_ _); rotate_left; (focus (dsimp only; first | omega | (simp only [size_ext, World.size_alloc, Array.size_append]; omega)))) | (with_reducible refine Grew.drewN ?_ _) | (with_reducible refine Grew.drew ?_)))))).mono ?_); rintro e w1 ⟨rs, rfl, hrs, o6, n6, rfl⟩)))
          go_roundw
          case rel => exact ⟨j + 1, rs, _, _, by (have := Hlj.out; omega), by go_num, rfl, hrs, rfl⟩
          case measure => (have := Hlj.out; simp [intOf]; omega)
        · have e : j = m.cols.toNat := by omega
          have hs' : IsF s (accR F G m.num i m.cols.toNat) := by rw [← e]; exact hs
          go_wp2_with (first | (at_builtin; refine append1_f (W := W) (v := u5) (xs := rowsTo F G m.num m.cols.toNat i) (y := accR F G m.num i m.cols.toNat) finfo ?_ ?_ ?_ ((by rw [hll]; omega)) _ _ rfl rfl rfl ?_ rfl ?_; (focus (refine Grew.trans gw ?_; (show Grew _ _; repeat (first | (with_reducible exact Grew.refl _) | (with_reducible assumption) | (with_reducible refine Grew.ext ?_ _ _) | (with_reducible refine Grew.alloc ?_ _) | ((with_reducible refine Grew.setCell ?_ ?_ _); rotate_left; (focus (dsimp only; first | omega | (simp only [size_ext, World.size_alloc, Array.size_append]; omega)))) | (with_reducible refine Grew.drewN ?_ _) | (with_reducible refine Grew.drew ?_))))); (focus (refine OwnF.grew (w := wr) ?_ ?_; (focus (with_reducible assumption)); (focus (show Grew _ _; repeat (first | (with_reducible exact Grew.refl _) | (with_reducible assumption) | (with_reducible refine Grew.ext ?_ _ _) | (with_reducible refine Grew.alloc ?_ _) | ((with_reducible refine Grew.setCell ?_ ?_ _); rotate_left; (focus (dsimp only; first | omega | (simp only [size_ext, World.size_alloc, Array.size_append]; omega)))) | (with_reducible refine Grew.drewN ?_ _) | (with_reducible refine Grew.drew ?_)))))); (focus (exact hs')); (focus (first | rfl | (simp only [size_ext, World.size_alloc, Array.size_append]; done) | (simp only [size_ext, World.size_alloc, Array.size_append]; omega))); intro v oo nn ho hn))
          go_roundw
          case rel => exact ⟨i + 1, oo, nn, by omega, by go_num, rfl, by rw [rowsTo_succ]; exact ho⟩
          case measure => simp [intOf]; omega
    · have e : i = m.rows.toNat := by omega
      subst e
      go_wp2
      go_ret
      exact ⟨_, rfl, ownF_mono hown z0, gww⟩
end Go.Proofs.Ytcmggfpcbijcjaa
