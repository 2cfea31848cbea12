/-
  Contract: gemm.Mul.
-/
import Derived.Test.YtcmggfpcbijcjaaGemm1
set_option linter.unusedSimpArgs false
set_option linter.unusedVariables false
open Go Go.RowKit Sedge
namespace Go.Proofs.Ytcmggfpcbijcjaa
theorem Plain.but {w w' : World} {b g : Nat} (h : Plain w b) (hB : But w [g] w') (hL : b = g → Plain w' b) : Plain w' b := by
  by_cases e : b = g
  · exact hL e
  · obtain ⟨c, t, h1⟩ := h
    exact ⟨c, t, (hB.block b ((Array.getElem?_eq_some_iff.1 h1).1) (by simpa using e)).trans h1⟩
theorem meet_noM {z x : MatM} (hz : z.good = true) (hx : x.good = true) (h : meetM z x true = false) {i j i' j' : Nat} (hi : (i : Int) < z.rows) (hj : (j : Int) < z.cols) (hi' : (i' : Int) < x.rows) (hj' : (j' : Int) < x.cols) : z.place i j ≠ x.place i' j' := by
  intro e
  have f1 : MatM.full z = true := by unfold MatM.full; rw [hz]; simp; omega
  have f2 : MatM.full x = true := by unfold MatM.full; rw [hx]; simp; omega
  have pz := MatM.good_place hz hi hj
  have px := MatM.good_place hx hi' hj'
  have hn := z.good_n hz
  have hmn := x.good_n hx
  unfold MatM.place at e
  have e' : z.off + i + j * z.ld = x.off + i' + j' * x.ld := by omega
  have k1 : (j : Int) * z.ld ≤ (z.cols - 1) * z.ld := Int.mul_le_mul_of_nonneg_right (by omega) (by omega)
  have k2 : (j' : Int) * x.ld ≤ (x.cols - 1) * x.ld := Int.mul_le_mul_of_nonneg_right (by omega) (by omega)
  unfold meetM spanLo spanHi at h
  rw [f1, f2] at h
  simp at h
  omega
/-- A matrix' list as it stands, in its own list or in z's, clear of z. -/
theorem pick_list {z x : MatM} {bx g cx : Nat} {w w' : World} {L : List Nat} {s : Nat → Nat → Nat} (hz : z.good = true) (hx : x.good = true) (hX : FS w (.slice (some ⟨bx, 0, none⟩) x.ws.length cx) x.ws) (hB : But w [g] w') (hL : FW w' g L) (hH : Hold z.place z.rows.toNat z.cols.toNat z.ws L s)
    (hxg : bx = g → x.ws = z.ws) (hm : meetM z x (decide (g = bx)) = false) (hl : x.ws.length ≤ 1000000) :
    ∃ K : List Nat, K.length = x.ws.length ∧ FS w' (.slice (some ⟨bx, 0, none⟩) x.ws.length cx) K ∧ (∀ i j : Nat, (i : Int) < x.rows → (j : Int) < x.cols → K.getD (x.place i j) 0 = x.num i j) ∧ (bx = g → K = L) := by
  by_cases h : bx = g
  · rw [show decide (g = bx) = true by simpa using h.symm] at hm
    have hlen : L.length = x.ws.length := by rw [hH.len, hxg h]
    have hf := hL.fs (by rw [hlen]; omega) cx
    rw [hlen, ← h] at hf
    refine ⟨L, hlen, hf, fun i j hi hj => ?_, fun _ => rfl⟩
    rw [hH.rest _ (fun i' j' h1 h2 => meet_noM hz hx hm (by omega) (by omega) hi hj), ← hxg h]
    rfl
  · exact ⟨x.ws, rfl, hB.fs_ne hX h, fun _ _ _ _ => rfl, fun e => absurd e h⟩
theorem mulTo_congr {α : Nat} {M M' : Nat → Nat → Nat} {X X' : Nat → Nat} {z r : Nat} : ∀ n, (∀ k, k < n → M r k = M' r k ∧ X k = X' k) → mulTo α M X z r n = mulTo α M' X' z r n
  | 0, _ => rfl
  | n + 1, h => by unfold mulTo; rw [mulTo_congr n (fun k hk => h k (by omega)), (h n (by omega)).1, (h n (by omega)).2]
def gemmF (α β : Nat) (x y z : MatM) (r c : Nat) : Nat := mulTo α x.num (fun k => y.num k c) (beginF β (z.num r c)) r x.cols.toNat
def stepC (F s : Nat → Nat → Nat) (j : Nat) (r c : Nat) : Nat := if c < j then F r c else s r c
/-- One column's product. -/
theorem gemm_col (a α b β : Nat) (x y z : MatM) (bx cx bz cz g cg : Nat) (w : World) (hX : FS w (.slice (some ⟨bx, 0, none⟩) x.ws.length cx) x.ws) (hY : FS w (.slice (some ⟨bz, 0, none⟩) y.ws.length cz) y.ws) (hF : FW w g z.ws) (hPx : Plain w bx) (hPy : Plain w bz) (hx : x.good = true) (hy : y.good = true) (hz : z.good = true) (e1 : x.cols = y.rows) (e2 : z.rows = x.rows) (e3 : z.cols = y.cols) (m1 : meetM z x (decide (g = bx)) = false) (m2 : meetM z y (decide (g = bz)) = false) (hxg : bx = g → x.ws = z.ws) (hyg : bz = g → y.ws = z.ws) (hwx : x.wf) (hwy : y.wf) (hwz : z.wf) (hlx : x.ws.length ≤ 1000000) (hly : y.ws.length ≤ 1000000) (hlz : z.ws.length ≤ 1000000) (kbx : bx < w.heap.size) (kbz : bz < w.heap.size) (ha : IsF a α) (hb : IsF b β) (h0 : 0 < z.rows) (j : Nat) (hj : (j : Int) < z.cols) :
    ∀ w' L, But w [g] w' → FW w' g L → Hold z.place z.rows.toNat z.cols.toNat z.ws L (stepC (gemmF α β x y z) z.num j) →
    Calls Try.prog 149 #[.agg #[.slice (some ⟨bz, 0, none⟩) y.ws.length cz, .int .i64 y.off, .int .i64 y.rows, .int .i64 y.cols, .int .i64 y.ld], .int .i64 j] w' (fun e w2 => e = .returned (.agg #[.slice (some ⟨bz, 0, none⟩) y.ws.length cz, .int .i64 (colV y j).off, .int .i64 y.rows, .int .i64 1]) ∧ ∃ o n, w2 = ext w' o n) ∧
    Calls Try.prog 149 #[.agg #[.slice (some ⟨g, 0, none⟩) z.ws.length cg, .int .i64 z.off, .int .i64 z.rows, .int .i64 z.cols, .int .i64 z.ld], .int .i64 j] w' (fun e w2 => e = .returned (.agg #[.slice (some ⟨g, 0, none⟩) z.ws.length cg, .int .i64 (colV z j).off, .int .i64 z.rows, .int .i64 1]) ∧ ∃ o n, w2 = ext w' o n) ∧
    Calls Try.prog 71 #[.float .f64 a, .agg #[.slice (some ⟨bx, 0, none⟩) x.ws.length cx, .int .i64 x.off, .int .i64 x.rows, .int .i64 x.cols, .int .i64 x.ld], .agg #[.slice (some ⟨bz, 0, none⟩) y.ws.length cz, .int .i64 (colV y j).off, .int .i64 y.rows, .int .i64 1], .float .f64 b, .agg #[.slice (some ⟨g, 0, none⟩) z.ws.length cg, .int .i64 (colV z j).off, .int .i64 z.rows, .int .i64 1]] w' (fun e w2 => e = .returned (.int .i64 0) ∧ But w' [g] w2 ∧ ∃ L', FW w2 g L' ∧ Hold z.place z.rows.toNat z.cols.toNat z.ws L' (stepC (gemmF α β x y z) z.num (j + 1))) := by
  intro w' L hB hL hH
  have hnz := z.good_n hz
  have hnx := x.good_n hx
  have hny := y.good_n hy
  obtain ⟨Kx, lx, fx, nx, gx⟩ := pick_list hz hx hX hB hL hH hxg m1 hlx
  obtain ⟨Ky, ly, fy, ny, gy⟩ := pick_list hz hy hY hB hL hH hyg m2 hly
  have lz : L.length = z.ws.length := hH.len
  have fz := hL.fs (by rw [lz]; omega) cg
  rw [lz] at fz
  have hjy : (j : Int) < y.cols := by omega
  have c1 := col_any (withL y Ky) (.slice (some ⟨bz, 0, none⟩) y.ws.length cz) j w' fy (by rw [withL_good ly]; exact hy) hwy hjy
  have c2 := col_any (withL z L) (.slice (some ⟨g, 0, none⟩) z.ws.length cg) j w' fz (by rw [withL_good lz]; exact hz) hwz hj
  refine ⟨c1, c2, ?_⟩
  have zg : (withL z L).good = true := by rw [withL_good lz]; exact hz
  have yg : (withL y Ky).good = true := by rw [withL_good ly]; exact hy
  have xg : (withL x Kx).good = true := by rw [withL_good lx]; exact hx
  have k1 : meetM (withL z L) (withL x Kx) (decide (g = bx)) = false := by rw [meet_withL lz lx]; exact m1
  have k2 : meetM (withL z L) (withL y Ky) (decide (g = bz)) = false := by rw [meet_withL lz ly]; exact m2
  have k3 : meetM (rowM (colV (withL z L) j)) (withL x Kx) (decide (g = bx)) = false := meet_col zg hj k1
  have k4 : meetM (rowM (colV (withL z L) j)) (rowM (colV (withL y Ky) j)) (decide (g = bz)) = false := by
    rw [meet_comm]
    refine meet_col yg hjy ?_
    rw [meet_comm]
    exact meet_col zg hj k2
  have hok : MulOk (withL x Kx) (colV (withL y Ky) j) (colV (withL z L) j) bx cx bz cz g cg x.rows x.cols w' := by
    refine ⟨?_, ?_, ?_, Plain.but hPx hB (fun e => e ▸ FW.plain hL), Plain.but hPy hB (fun e => e ▸ FW.plain hL), FW.plain hL, xg, colV_right' yg hjy, colV_right' zg hj, e1.symm, e2, k3, k4, hwx, colV_wf yg (by show Ky.length ≤ _; omega) hwy hjy, colV_wf zg (by show L.length ≤ _; omega) hwz hj, by show Kx.length ≤ _; omega, by show Ky.length ≤ _; omega, by show L.length ≤ _; omega⟩
    · show FS w' (.slice (some ⟨bx, 0, none⟩) Kx.length cx) Kx; rw [lx]; exact fx
    · show FS w' (.slice (some ⟨bz, 0, none⟩) Ky.length cz) Ky; rw [ly]; exact fy
    · show FS w' (.slice (some ⟨g, 0, none⟩) L.length cg) L; rw [lz]; exact fz
  have h := mul_ok a α b β (withL x Kx) (colV (withL y Ky) j) (colV (withL z L) j) bx cx bz cz g cg w' ha hb hok hL h0 (fun e => gx e) (fun e => gy e) (by have := hB.size; omega) (by have := hB.size; omega)
  have v1 : (withL x Kx).ws.length = x.ws.length := lx
  have v2 : (colV (withL y Ky) j).ws.length = y.ws.length := ly
  have v3 : (colV (withL z L) j).ws.length = z.ws.length := lz
  rw [v1, v2, v3] at h
  refine h.mono fun e w2 hh => ?_
  obtain ⟨rfl, h1, L', h2, h3⟩ := hh
  refine ⟨rfl, h1, L', h2, (hold_col hz h0 lz hj hH h3).congr fun r c hr hc => ?_⟩
  unfold stepC
  by_cases e : c = j
  · subst e
    rw [if_pos rfl, if_pos (by omega)]
    unfold gemmF
    have q1 : (colV (withL z L) c).num r = z.num r c := by
      have := hH.get r c hr hc
      unfold stepC at this
      rw [if_neg (by omega)] at this
      unfold VecM.num
      rw [colV_place (m := withL z L) h0 c r]
      exact this
    rw [q1]
    have q2 : (colV (withL y Ky) c).n.toNat = x.cols.toNat := by show y.rows.toNat = _; rw [e1]
    rw [q2]
    refine mulTo_congr _ fun k hk => ⟨nx r k (by omega) (by omega), ?_⟩
    unfold VecM.num
    rw [colV_place (m := withL y Ky) (by show 0 < y.rows; omega) c k]
    exact ny k c (by omega) hjy
  · rw [if_neg e]
    by_cases h4 : c < j
    · rw [if_pos h4, if_pos (by omega)]
    · rw [if_neg h4, if_neg (by omega)]
set_option maxRecDepth 100000 in
set_option maxHeartbeats 4000000 in
theorem gemm_ok (a α b β : Nat) (x y z : MatM) (bx cx bz cz g cg : Nat) (w : World) (hX : FS w (.slice (some ⟨bx, 0, none⟩) x.ws.length cx) x.ws) (hY : FS w (.slice (some ⟨bz, 0, none⟩) y.ws.length cz) y.ws) (hF : FW w g z.ws) (hPx : Plain w bx) (hPy : Plain w bz) (hx : x.good = true) (hy : y.good = true) (hz : z.good = true) (e1 : x.cols = y.rows) (e2 : z.rows = x.rows) (e3 : z.cols = y.cols) (m1 : meetM z x (decide (g = bx)) = false) (m2 : meetM z y (decide (g = bz)) = false) (hxg : bx = g → x.ws = z.ws) (hyg : bz = g → y.ws = z.ws) (hwx : x.wf) (hwy : y.wf) (hwz : z.wf) (hlx : x.ws.length ≤ 1000000) (hly : y.ws.length ≤ 1000000) (hlz : z.ws.length ≤ 1000000) (kbx : bx < w.heap.size) (kbz : bz < w.heap.size) (ha : IsF a α) (hb : IsF b β) (hck : ∀ w', Grew w w' → Calls Try.prog 148 #[.agg #[.slice (some ⟨bx, 0, none⟩) x.ws.length cx, .int .i64 x.off, .int .i64 x.rows, .int .i64 x.cols, .int .i64 x.ld], .agg #[.slice (some ⟨bz, 0, none⟩) y.ws.length cz, .int .i64 y.off, .int .i64 y.rows, .int .i64 y.cols, .int .i64 y.ld], .agg #[.slice (some ⟨g, 0, none⟩) z.ws.length cg, .int .i64 z.off, .int .i64 z.rows, .int .i64 z.cols, .int .i64 z.ld]] w' (fun e w2 => e = .returned (.int .i64 0) ∧ ∃ o n, w2 = ext w' o n)) :
    Calls Try.prog 75 #[.float .f64 a, .agg #[.slice (some ⟨bx, 0, none⟩) x.ws.length cx, .int .i64 x.off, .int .i64 x.rows, .int .i64 x.cols, .int .i64 x.ld], .agg #[.slice (some ⟨bz, 0, none⟩) y.ws.length cz, .int .i64 y.off, .int .i64 y.rows, .int .i64 y.cols, .int .i64 y.ld], .float .f64 b, .agg #[.slice (some ⟨g, 0, none⟩) z.ws.length cg, .int .i64 z.off, .int .i64 z.rows, .int .i64 z.cols, .int .i64 z.ld]] w (fun e w' => e = .returned (.int .i64 0) ∧ But w [g] w' ∧ ∃ L, FW w' g L ∧ Hold z.place z.rows.toNat z.cols.toNat z.ws L (gemmF α β x y z)) := by
  have hnz := z.good_n hz
  have hltg := hF.lt
  by_cases h0 : 0 < z.rows
  · have hcol := fun j hj => gemm_col a α b β x y z bx cx bz cz g cg w hX hY hF hPx hPy hx hy hz e1 e2 e3 m1 m2 hxg hyg hwx hwy hwz hlx hly hlz kbx kbz ha hb h0 j hj
    have d0 : (z.rows == 0) = false := by rw [beq_eq_false_iff_ne]; omega
    have hzc : z.cols ≤ 1000000 := by
      by_cases hc : 0 < z.cols
      · have hp := MatM.good_place hz (i := 0) (j := (z.cols - 1).toNat) (by omega) (by omega)
        rw [Int.toNat_of_nonneg (by omega)] at hp
        have h2 : (z.cols - 1) * 1 ≤ (z.cols - 1) * z.ld := Int.mul_le_mul_of_nonneg_left (by omega) (by omega)
        omega
      · omega
    clear hx hy hz e1 e2 e3 m1 m2 hxg hyg hwx hwy hwz
    go_enter Try.func75, Try.ntmps75
    refine seq_stop ?_
    go_wp2
    refine stop_go (fun W hW => ?_)
    have s1 : w.heap.size < W.heap.size := by rw [hW]; simp only [World.size_alloc]; omega
    have b1 : ∀ i, W.cell? ⟨w.heap.size, i, none⟩ = (#[.slice (some ⟨bx, 0, none⟩) x.ws.length cx, .int .i64 x.off, .int .i64 x.rows, .int .i64 x.cols, .int .i64 x.ld] : Array Value)[i]? := by intro i; rw [hW]; go_simp
    have s2 : w.heap.size + 1 < W.heap.size := by rw [hW]; simp only [World.size_alloc]; omega
    have b2 : ∀ i, W.cell? ⟨w.heap.size + 1, i, none⟩ = (#[.slice (some ⟨bz, 0, none⟩) y.ws.length cz, .int .i64 y.off, .int .i64 y.rows, .int .i64 y.cols, .int .i64 y.ld] : Array Value)[i]? := by intro i; rw [hW]; go_simp
    have s3 : w.heap.size + 1 + 1 < W.heap.size := by rw [hW]; simp only [World.size_alloc]; omega
    have b3 : ∀ i, W.cell? ⟨w.heap.size + 1 + 1, i, none⟩ = (#[.slice (some ⟨g, 0, none⟩) z.ws.length cg, .int .i64 z.off, .int .i64 z.rows, .int .i64 z.cols, .int .i64 z.ld] : Array Value)[i]? := by intro i; rw [hW]; go_simp
    have g0 : Grew w W := by rw [hW]; exact (((Grew.refl _).alloc _).alloc _).alloc _
    clear hW
    have zW := g0.below.size
    have bw : ∀ w', But W [g] w' → But w [g] w' := fun w' h => ((But.refl w [g]).grew g0).trans h (fun _ hb => .inl hb)
    have c1 : ∀ w', But W [g] w' → ∀ i, w'.cell? ⟨w.heap.size, i, none⟩ = (#[.slice (some ⟨bx, 0, none⟩) x.ws.length cx, .int .i64 x.off, .int .i64 x.rows, .int .i64 x.cols, .int .i64 x.ld] : Array Value)[i]? := fun w' h i => (h.cell s1 (by simp; omega)).trans (b1 i)
    have c2 : ∀ w', But W [g] w' → ∀ i, w'.cell? ⟨w.heap.size + 1, i, none⟩ = (#[.slice (some ⟨bz, 0, none⟩) y.ws.length cz, .int .i64 y.off, .int .i64 y.rows, .int .i64 y.cols, .int .i64 y.ld] : Array Value)[i]? := fun w' h i => (h.cell s2 (by simp; omega)).trans (b2 i)
    have c3 : ∀ w', But W [g] w' → ∀ i, w'.cell? ⟨w.heap.size + 1 + 1, i, none⟩ = (#[.slice (some ⟨g, 0, none⟩) z.ws.length cg, .int .i64 z.off, .int .i64 z.rows, .int .i64 z.cols, .int .i64 z.ld] : Array Value)[i]? := fun w' h i => (h.cell s3 (by simp; omega)).trans (b3 i)
    have hFW := hF.grew g0
    go_wp2_with (first | (go_at_call 148; ((with_reducible refine (hck _ (g0.trans (by (show Grew _ _; repeat (first | (with_reducible exact Grew.refl _) | (with_reducible assumption) | (with_reducible refine Grew.ext ?_ _ _) | (with_reducible refine Grew.alloc ?_ _) | ((with_reducible refine Grew.setCell ?_ ?_ _); rotate_left; (focus (dsimp only; first | omega | (simp only [size_ext, World.size_alloc, Array.size_append]; omega)))) | (with_reducible refine Grew.drewN ?_ _) | (with_reducible refine Grew.drew ?_)))))).mono ?_); rintro e w1 ⟨rfl, oa, na, rfl⟩)))
    go_loopw [27] (fun c wr => ∃ (j : Nat) (L : List Nat), (j : Int) ≤ z.cols ∧ c = .int .i64 j ∧ But W [g] wr ∧ FW wr g L ∧ Hold z.place z.rows.toNat z.cols.toNat z.ws L (stepC (gemmF α β x y z) z.num j)) (fun c _ => (z.cols - intOf c).toNat)
    case atStart => exact ⟨0, z.ws, hnz.2.1, rfl, (But.refl W [g]).grew ⟨_, _, rfl⟩, hFW.ext _ _, MatM.hold.congr fun i j _ _ => by simp [stepC]⟩
    case round =>
      obtain ⟨j, L, hj, rfl, hB, hL, hH⟩ := hrel
      have zB := hB.size
      by_cases hlt : (j : Int) < z.cols
      · have hlt' := hid hlt
        have hcj := hcol j hlt
        go_wp2
        refine wp_region_R (But W [g]) [] [(0,0), (0,1), (0,2), (0,3), (0,5), (0,6), (0,7), (1,4), (1,8), (1,9)] (by kernel_rfl) (by kernel_rfl) (fun _ _ _ _ h _ => h) (hB.grew ((Grew.refl _).drew)) ?_
        refine name_any (fun V6 hV6 => ?_)
        have hg6 : Grew wr V6 := by rw [← hV6]; (show Grew _ _; repeat (first | (with_reducible exact Grew.refl _) | (with_reducible assumption) | (with_reducible refine Grew.ext ?_ _ _) | (with_reducible refine Grew.alloc ?_ _) | ((with_reducible refine Grew.setCell ?_ ?_ _); rotate_left; (focus (dsimp only; first | omega | (simp only [size_ext, World.size_alloc, Array.size_append]; omega)))) | (with_reducible refine Grew.drewN ?_ _) | (with_reducible refine Grew.drew ?_)))
        have B6 := hB.grew hg6
        have F6 := hL.grew hg6
        clear hV6 hg6
        go_wp2_with (first | ((with_reducible refine wpR_id ?_); first | (refine wpR_take (v := ?_) rfl rfl ?_ ?_; rotate_left; (focus (intro w' hw'; go_simp; try with_reducible rfl)); simp only [Act.put, List.setIfInBounds_toArray, List.set_cons_zero, List.set_cons_succ]) | (refine wpR_pure (v := ?_) rfl rfl ?_ ?_; rotate_left; (focus (intro w'; go_simp; try with_reducible rfl)); simp only [Act.put, List.setIfInBounds_toArray, List.set_cons_zero, List.set_cons_succ]) | (refine wpR_takeG (v := ?_) rfl rfl rfl rfl rfl ?_ ?_; rotate_left; (focus (intro w' hw'; go_simp; try with_reducible rfl)); simp only [Act.put, List.setIfInBounds_toArray, List.set_cons_zero, List.set_cons_succ]) | (refine wpR_skip rfl rfl rfl rfl rfl rfl ?_; simp only [Act.put, List.setIfInBounds_toArray, List.set_cons_zero, List.set_cons_succ]) | (refine wpR_skipU rfl rfl rfl rfl rfl ?_; simp only [Act.put, List.setIfInBounds_toArray, List.set_cons_zero, List.set_cons_succ]) | (refine wpR_do rfl rfl (fun K hK => ?_)) | (refine wpR_doG rfl rfl rfl rfl rfl (fun K hK => ?_)) | (refine wpR_last rfl rfl (fun K hK => ?_)) | (refine wpR_nil ?_)) | ((with_reducible refine wpR_go ?_ ?_); (focus (with_reducible assumption))) | ((with_reducible refine upon_id ?_); refine upon_fop rfl (by assumption) (by assumption) ?_; intro rr nn hr) | (go_at_call 149; ((with_reducible refine ((hcj _ L (bw _ B6) F6 hH).1).mono ?_); rintro e w1 ⟨rfl, hw1⟩; (have B7 := B6.grew hw1; have F7 := F6.grew hw1))) | (go_at_call 149; ((with_reducible refine ((hcj _ L (bw _ B7) F7 hH).2.1).mono ?_); rintro e w1 ⟨rfl, hw2⟩; (have B8 := B7.grew hw2; have F8 := F7.grew hw2))) | (go_at_call 71; ((with_reducible refine ((hcj _ L (bw _ B8) F8 hH).2.2).mono ?_); rintro e w1 ⟨rfl, hB9, L9, hL9, hH9⟩; (have B9 := B8.trans hB9 (fun _ hb => .inl hb)))))
        go_roundw
        case rel => exact ⟨j + 1, L9, by have := hlt'.out; omega, by go_num, B9, hL9, hH9⟩
        case measure => (have := hlt'.out; simp [intOf]; omega)
      · go_wp2
        go_ret
        refine ⟨rfl, bw _ hB, L, hL, hH.congr fun r c hr hc => ?_⟩
        unfold stepC
        rw [if_pos (by omega)]
  · have d0 : (z.rows == 0) = true := by simp; omega
    have hh : Hold z.place z.rows.toNat z.cols.toNat z.ws z.ws (gemmF α β x y z) := ⟨rfl, fun i j hi hj => by omega, fun _ _ => rfl⟩
    clear hx hy hz e1 e2 e3 m1 m2 hxg hyg hwx hwy hwz
    go_enter Try.func75, Try.ntmps75
    refine seq_stop ?_
    go_wp2
    refine stop_go (fun W hW => ?_)
    have s1 : w.heap.size < W.heap.size := by rw [hW]; simp only [World.size_alloc]; omega
    have b1 : ∀ i, W.cell? ⟨w.heap.size, i, none⟩ = (#[.slice (some ⟨bx, 0, none⟩) x.ws.length cx, .int .i64 x.off, .int .i64 x.rows, .int .i64 x.cols, .int .i64 x.ld] : Array Value)[i]? := by intro i; rw [hW]; go_simp
    have s2 : w.heap.size + 1 < W.heap.size := by rw [hW]; simp only [World.size_alloc]; omega
    have b2 : ∀ i, W.cell? ⟨w.heap.size + 1, i, none⟩ = (#[.slice (some ⟨bz, 0, none⟩) y.ws.length cz, .int .i64 y.off, .int .i64 y.rows, .int .i64 y.cols, .int .i64 y.ld] : Array Value)[i]? := by intro i; rw [hW]; go_simp
    have s3 : w.heap.size + 1 + 1 < W.heap.size := by rw [hW]; simp only [World.size_alloc]; omega
    have b3 : ∀ i, W.cell? ⟨w.heap.size + 1 + 1, i, none⟩ = (#[.slice (some ⟨g, 0, none⟩) z.ws.length cg, .int .i64 z.off, .int .i64 z.rows, .int .i64 z.cols, .int .i64 z.ld] : Array Value)[i]? := by intro i; rw [hW]; go_simp
    have g0 : Grew w W := by rw [hW]; exact (((Grew.refl _).alloc _).alloc _).alloc _
    clear hW
    go_wp2_with (first | (go_at_call 148; ((with_reducible refine (hck _ (g0.trans (by (show Grew _ _; repeat (first | (with_reducible exact Grew.refl _) | (with_reducible assumption) | (with_reducible refine Grew.ext ?_ _ _) | (with_reducible refine Grew.alloc ?_ _) | ((with_reducible refine Grew.setCell ?_ ?_ _); rotate_left; (focus (dsimp only; first | omega | (simp only [size_ext, World.size_alloc, Array.size_append]; omega)))) | (with_reducible refine Grew.drewN ?_ _) | (with_reducible refine Grew.drew ?_)))))).mono ?_); rintro e w1 ⟨rfl, oa, na, rfl⟩)))
    go_ret
    exact ⟨rfl, (But.refl w [g]).grew (by (show Grew _ _; repeat (first | (with_reducible exact Grew.refl _) | (with_reducible assumption) | (with_reducible refine Grew.ext ?_ _ _) | (with_reducible refine Grew.alloc ?_ _) | ((with_reducible refine Grew.setCell ?_ ?_ _); rotate_left; (focus (dsimp only; first | omega | (simp only [size_ext, World.size_alloc, Array.size_append]; omega)))) | (with_reducible refine Grew.drewN ?_ _) | (with_reducible refine Grew.drew ?_)))), z.ws, hF.grew (by (show Grew _ _; repeat (first | (with_reducible exact Grew.refl _) | (with_reducible assumption) | (with_reducible refine Grew.ext ?_ _ _) | (with_reducible refine Grew.alloc ?_ _) | ((with_reducible refine Grew.setCell ?_ ?_ _); rotate_left; (focus (dsimp only; first | omega | (simp only [size_ext, World.size_alloc, Array.size_append]; omega)))) | (with_reducible refine Grew.drewN ?_ _) | (with_reducible refine Grew.drew ?_)))), hh⟩
set_option maxRecDepth 100000 in
set_option maxHeartbeats 4000000 in
theorem gemm_out (a b : Nat) (x y z : MatM) (bx cx bz cz g cg : Nat) (w : World) (hX : FS w (.slice (some ⟨bx, 0, none⟩) x.ws.length cx) x.ws) (hY : FS w (.slice (some ⟨bz, 0, none⟩) y.ws.length cz) y.ws) (hF : FW w g z.ws) (hPx : Plain w bx) (hPy : Plain w bz) (E : Int) (hE : E ≠ 0) (hck : ∀ w', Grew w w' → Calls Try.prog 148 #[.agg #[.slice (some ⟨bx, 0, none⟩) x.ws.length cx, .int .i64 x.off, .int .i64 x.rows, .int .i64 x.cols, .int .i64 x.ld], .agg #[.slice (some ⟨bz, 0, none⟩) y.ws.length cz, .int .i64 y.off, .int .i64 y.rows, .int .i64 y.cols, .int .i64 y.ld], .agg #[.slice (some ⟨g, 0, none⟩) z.ws.length cg, .int .i64 z.off, .int .i64 z.rows, .int .i64 z.cols, .int .i64 z.ld]] w' (fun e w2 => e = .returned (.int .i64 E) ∧ ∃ o n, w2 = ext w' o n)) :
    Calls Try.prog 75 #[.float .f64 a, .agg #[.slice (some ⟨bx, 0, none⟩) x.ws.length cx, .int .i64 x.off, .int .i64 x.rows, .int .i64 x.cols, .int .i64 x.ld], .agg #[.slice (some ⟨bz, 0, none⟩) y.ws.length cz, .int .i64 y.off, .int .i64 y.rows, .int .i64 y.cols, .int .i64 y.ld], .float .f64 b, .agg #[.slice (some ⟨g, 0, none⟩) z.ws.length cg, .int .i64 z.off, .int .i64 z.rows, .int .i64 z.cols, .int .i64 z.ld]] w (fun e w' => e = .returned (.int .i64 E) ∧ ∃ o n, w' = ext w o n) := by
  have d0 : (E != 0) = true := by simpa using hE
  clear hE
  go_enter Try.func75, Try.ntmps75
  refine seq_stop ?_
  go_wp2
  refine stop_go (fun W hW => ?_)
  have s1 : w.heap.size < W.heap.size := by rw [hW]; simp only [World.size_alloc]; omega
  have b1 : ∀ i, W.cell? ⟨w.heap.size, i, none⟩ = (#[.slice (some ⟨bx, 0, none⟩) x.ws.length cx, .int .i64 x.off, .int .i64 x.rows, .int .i64 x.cols, .int .i64 x.ld] : Array Value)[i]? := by intro i; rw [hW]; go_simp
  have s2 : w.heap.size + 1 < W.heap.size := by rw [hW]; simp only [World.size_alloc]; omega
  have b2 : ∀ i, W.cell? ⟨w.heap.size + 1, i, none⟩ = (#[.slice (some ⟨bz, 0, none⟩) y.ws.length cz, .int .i64 y.off, .int .i64 y.rows, .int .i64 y.cols, .int .i64 y.ld] : Array Value)[i]? := by intro i; rw [hW]; go_simp
  have s3 : w.heap.size + 1 + 1 < W.heap.size := by rw [hW]; simp only [World.size_alloc]; omega
  have b3 : ∀ i, W.cell? ⟨w.heap.size + 1 + 1, i, none⟩ = (#[.slice (some ⟨g, 0, none⟩) z.ws.length cg, .int .i64 z.off, .int .i64 z.rows, .int .i64 z.cols, .int .i64 z.ld] : Array Value)[i]? := by intro i; rw [hW]; go_simp
  have g0 : Grew w W := by rw [hW]; exact (((Grew.refl _).alloc _).alloc _).alloc _
  clear hW
  go_wp2_with (first | (go_at_call 148; ((with_reducible refine (hck _ (g0.trans (by (show Grew _ _; repeat (first | (with_reducible exact Grew.refl _) | (with_reducible assumption) | (with_reducible refine Grew.ext ?_ _ _) | (with_reducible refine Grew.alloc ?_ _) | ((with_reducible refine Grew.setCell ?_ ?_ _); rotate_left; (focus (dsimp only; first | omega | (simp only [size_ext, World.size_alloc, Array.size_append]; omega)))) | (with_reducible refine Grew.drewN ?_ _) | (with_reducible refine Grew.drew ?_)))))).mono ?_); rintro e w1 ⟨rfl, oa, na, rfl⟩)))
  go_ret
  exact ⟨rfl, by (show Grew _ _; repeat (first | (with_reducible exact Grew.refl _) | (with_reducible assumption) | (with_reducible refine Grew.ext ?_ _ _) | (with_reducible refine Grew.alloc ?_ _) | ((with_reducible refine Grew.setCell ?_ ?_ _); rotate_left; (focus (dsimp only; first | omega | (simp only [size_ext, World.size_alloc, Array.size_append]; omega)))) | (with_reducible refine Grew.drewN ?_ _) | (with_reducible refine Grew.drew ?_)))⟩
theorem gemmE_ok {x y z : MatM} {ox oy : Bool} (h : gemmE x y z ox oy = 0) : x.good = true ∧ y.good = true ∧ z.good = true ∧ x.cols = y.rows ∧ z.rows = x.rows ∧ z.cols = y.cols ∧ meetM z x ox = false ∧ meetM z y oy = false := by
  unfold gemmE at h
  split at h
  · cases h
  · rename_i h1
    split at h
    · cases h
    · rename_i h2
      split at h
      · cases h
      · rename_i h3
        simp only [not_or, Bool.not_eq_true, Bool.not_eq_false, ne_eq, Decidable.not_not] at h1 h2 h3
        exact ⟨h1.1, h1.2.1, h1.2.2, h2.1, h2.2.1, h2.2.2, h3.1, h3.2⟩
/-- gemm.Mul. -/
theorem gemm_any (a α b β : Nat) (x y z : MatM) (bx cx bz cz g cg : Nat) (w : World) (hX : FS w (.slice (some ⟨bx, 0, none⟩) x.ws.length cx) x.ws) (hY : FS w (.slice (some ⟨bz, 0, none⟩) y.ws.length cz) y.ws) (hF : FW w g z.ws) (hPx : Plain w bx) (hPy : Plain w bz) (hxg : bx = g → x.ws = z.ws) (hyg : bz = g → y.ws = z.ws) (hwx : x.wf) (hwy : y.wf) (hwz : z.wf) (hlx : x.ws.length ≤ 1000000) (hly : y.ws.length ≤ 1000000) (hlz : z.ws.length ≤ 1000000) (kbx : bx < w.heap.size) (kbz : bz < w.heap.size) (ha : IsF a α) (hb : IsF b β) :
    Calls Try.prog 75 #[.float .f64 a, .agg #[.slice (some ⟨bx, 0, none⟩) x.ws.length cx, .int .i64 x.off, .int .i64 x.rows, .int .i64 x.cols, .int .i64 x.ld], .agg #[.slice (some ⟨bz, 0, none⟩) y.ws.length cz, .int .i64 y.off, .int .i64 y.rows, .int .i64 y.cols, .int .i64 y.ld], .float .f64 b, .agg #[.slice (some ⟨g, 0, none⟩) z.ws.length cg, .int .i64 z.off, .int .i64 z.rows, .int .i64 z.cols, .int .i64 z.ld]] w (fun e w' => e = .returned (.int .i64 (gemmE x y z (decide (g = bx)) (decide (g = bz)))) ∧ But w [g] w' ∧ ∃ L, FW w' g L ∧ (gemmE x y z (decide (g = bx)) (decide (g = bz)) ≠ 0 → L = z.ws) ∧
      (gemmE x y z (decide (g = bx)) (decide (g = bz)) = 0 → Hold z.place z.rows.toNat z.cols.toNat z.ws L (gemmF α β x y z))) := by
  have hZ := hF.fs (by omega) cg
  have hck : ∀ w', Grew w w' → Calls Try.prog 148 #[.agg #[.slice (some ⟨bx, 0, none⟩) x.ws.length cx, .int .i64 x.off, .int .i64 x.rows, .int .i64 x.cols, .int .i64 x.ld], .agg #[.slice (some ⟨bz, 0, none⟩) y.ws.length cz, .int .i64 y.off, .int .i64 y.rows, .int .i64 y.cols, .int .i64 y.ld], .agg #[.slice (some ⟨g, 0, none⟩) z.ws.length cg, .int .i64 z.off, .int .i64 z.rows, .int .i64 z.cols, .int .i64 z.ld]] w' (fun e w2 => e = .returned (.int .i64 (gemmE x y z (decide (g = bx)) (decide (g = bz)))) ∧ ∃ o n, w2 = ext w' o n) := fun w' hg =>
    gcheck_any x y z bx cx bz cz g cg w' (hX.grew hg) (hY.grew hg) (hZ.grew hg) (hPx.grew hg) (hPy.grew hg) ((FW.plain hF).grew hg) hwx hwy hwz hlx hly hlz
  obtain ⟨E, hE⟩ : ∃ E, E = gemmE x y z (decide (g = bx)) (decide (g = bz)) := ⟨_, rfl⟩
  rw [← hE] at hck ⊢
  by_cases h0 : E = 0
  · obtain ⟨h1, h2, h3, h4, h5, h6, h7, h8⟩ := gemmE_ok (hE.symm.trans h0)
    rw [h0] at hck ⊢
    refine (gemm_ok a α b β x y z bx cx bz cz g cg w hX hY hF hPx hPy h1 h2 h3 h4 h5 h6 h7 h8 hxg hyg hwx hwy hwz hlx hly hlz kbx kbz ha hb hck).mono fun e w' hh => ?_
    obtain ⟨rfl, h9, L, h10, h11⟩ := hh
    exact ⟨rfl, h9, L, h10, fun h => absurd rfl h, fun _ => h11⟩
  · refine (gemm_out a b x y z bx cx bz cz g cg w hX hY hF hPx hPy E h0 hck).mono fun e w' hh => ?_
    exact ⟨hh.1, (But.refl w [g]).grew hh.2, z.ws, hF.grew hh.2, fun _ => rfl, fun h => absurd h h0⟩
end Go.Proofs.Ytcmggfpcbijcjaa
