/-
  Contract: gemv.columns, of gemv.Mul's closure.
-/
import Derived.Test.YtcmggfpcbijcjaaGemv1
set_option linter.unusedSimpArgs false
set_option linter.unusedVariables false
open Go Go.RowKit Sedge
namespace Go.Proofs.Ytcmggfpcbijcjaa
/-- A row's number: what it began with, and the products of its first j columns. -/
def mulTo (α : Nat) (M : Nat → Nat → Nat) (X : Nat → Nat) (z r : Nat) : Nat → Nat
  | 0 => z
  | j + 1 => fadd (mulTo α M X z r j) (fmul (fmul α (X j)) (M r j))
/-- A number of a matrix, or of a vector, can be read while y's numbers change. -/
def Reads (w : World) (y : VecM) (g b : Nat) (pl : Nat) (v : Nat) : Prop :=
  ∀ w' L s, But w [g] w' → FW w' g L → VH y L s → ∃ r, w'.cell? ⟨b, pl, none⟩ = some (.float .f64 r) ∧ IsF r v
set_option maxRecDepth 100000 in
set_option maxHeartbeats 4000000 in
theorem columns_any (m : MatM) (x y : VecM) (bm cm bx cx g cg a α Ta : Nat) (s0 : Nat → Nat) (L0 : List Nat) (w : World) (ha : IsF a α) (hca : ∀ i, w.cell? ⟨Ta, i, none⟩ = (#[.float .f64 a] : Array Value)[i]?) (kTa : Ta < w.heap.size) (nTa : Ta ≠ g)
    (hF : FW w g L0) (hV : VH y L0 s0) (hm : m.good = true) (hx : x.right = true) (hy : y.right = true) (hwm : m.wf) (hxn : x.n = m.cols) (hyn : y.n = m.rows) (hy0 : 0 < y.n) (hlm : m.ws.length ≤ 1000000) (hlx : x.ws.length ≤ 1000000) (hly : y.ws.length ≤ 1000000)
    (hcolA : ∀ w' L s, But w [g] w' → FW w' g L → VH y L s → ∀ j : Nat, (j : Int) < m.cols → Calls Try.prog 149 #[.agg #[.slice (some ⟨bm, 0, none⟩) m.ws.length cm, .int .i64 m.off, .int .i64 m.rows, .int .i64 m.cols, .int .i64 m.ld], .int .i64 j] w'
      (fun e w2 => e = .returned (.agg #[.slice (some ⟨bm, 0, none⟩) m.ws.length cm, .int .i64 (m.off + j * m.ld), .int .i64 m.rows, .int .i64 1]) ∧ ∃ o n, w2 = ext w' o n))
    (rdm : ∀ i j : Nat, (i : Int) < m.rows → (j : Int) < m.cols → Reads w y g bm (m.place i j) (m.num i j)) (rdx : ∀ j : Nat, (j : Int) < x.n → Reads w y g bx (x.place j) (x.num j)) (kbm : bm < w.heap.size) (kbx : bx < w.heap.size) :
   Calls Try.prog 146 #[.agg #[.slice (some ⟨bm, 0, none⟩) m.ws.length cm, .int .i64 m.off, .int .i64 m.rows, .int .i64 m.cols, .int .i64 m.ld], .agg #[.slice (some ⟨bx, 0, none⟩) x.ws.length cx, .int .i64 x.off, .int .i64 x.n, .int .i64 x.inc], .agg #[.slice (some ⟨g, 0, none⟩) y.ws.length cg, .int .i64 y.off, .int .i64 y.n, .int .i64 y.inc], .func (.func 147) #[] #[.pointer (some ⟨Ta, 0, none⟩)]] w
     (fun e w' => e = .returned (.tuple #[]) ∧ But w [g] w' ∧ ∃ L, FW w' g L ∧ VH y L (fun r => mulTo α m.num x.num (s0 r) r x.n.toNat)) := by
  have hn := MatM.good_n hm
  have hnx := VecM.right_n hx
  have hny := VecM.right_n hy
  have hltg := hF.lt
  have Hm := hid hm
  have Hx := hid hx
  have Hy := hid hy
  have Hxn := hid hxn
  have Hyn := hid hyn
  have hnlx := VecM.right_nle hx hlx
  have hnly := VecM.right_nle hy hly
  have haty : ∀ i : Nat, (i : Int) < y.n → ∀ w', Calls Try.prog 160 #[.agg #[.slice (some ⟨g, 0, none⟩) y.ws.length cg, .int .i64 y.off, .int .i64 y.n, .int .i64 y.inc], .int .i64 i] w' (fun e w2 => e = .returned (.pointer (some ⟨g, y.place i, none⟩)) ∧ ∃ o n, w2 = ext w' o n) := fun i hi w' => gat_any y g cg i w' hy hi hly
  have hatx : ∀ i : Nat, (i : Int) < x.n → ∀ w', Calls Try.prog 160 #[.agg #[.slice (some ⟨bx, 0, none⟩) x.ws.length cx, .int .i64 x.off, .int .i64 x.n, .int .i64 x.inc], .int .i64 i] w' (fun e w2 => e = .returned (.pointer (some ⟨bx, x.place i, none⟩)) ∧ ∃ o n, w2 = ext w' o n) := fun i hi w' => gat_any x bx cx i w' hx hi hlx
  have hatm : ∀ i j : Nat, (i : Int) < m.rows → (j : Int) < m.cols → ∀ w', Calls Try.prog 160 #[.agg #[.slice (some ⟨bm, 0, none⟩) m.ws.length cm, .int .i64 (m.off + j * m.ld), .int .i64 m.rows, .int .i64 1], .int .i64 i] w' (fun e w2 => e = .returned (.pointer (some ⟨bm, m.place i j, none⟩)) ∧ ∃ o n, w2 = ext w' o n) := fun i j hi hj w' => by
    have hr := colV_right hm hj (by omega)
    have h := gat_any (colV m j) bm cm i w' hr hi hlm
    have e1 : (colV m j).place i = m.place i j := by unfold colV VecM.place MatM.place; simp only [show (0 : Int) < m.rows by omega, if_true]; congr 1; omega
    have e2 : (colV m j).off = m.off + j * m.ld := by unfold colV; simp only [show (0 : Int) < m.rows by omega, if_true]
    rw [e1, e2] at h
    exact h
  clear hm hx hy hwm hxn hyn
  have hmc : ∀ v V x X w', IsF v V → IsF x X → (∀ i, w'.cell? ⟨Ta, i, none⟩ = (#[.float .f64 a] : Array Value)[i]?) → Calls Try.prog 147 #[.float .f64 v, .float .f64 x, .pointer (some ⟨Ta, 0, none⟩)] w' (fun e w2 => ∃ r, e = .returned (.float .f64 r) ∧ IsF r (fmul (fmul α X) V) ∧ ∃ o n, w2 = ext w' o n) := fun v V x X w' h1 h2 h3 => mcl_any v x a V X α Ta w' h1 h2 ha h3
  go_enter Try.func146, Try.ntmps146
  refine seq_stop ?_
  go_wp2
  refine stop_go (fun W hW => ?_)
  have s1 : w.heap.size < W.heap.size := by rw [hW]; simp only [World.size_alloc]; omega
  have b1 : ∀ i, W.cell? ⟨w.heap.size, i, none⟩ = (#[.slice (some ⟨bm, 0, none⟩) m.ws.length cm, .int .i64 m.off, .int .i64 m.rows, .int .i64 m.cols, .int .i64 m.ld] : Array Value)[i]? := by intro i; rw [hW]; go_simp
  have s2 : w.heap.size + 1 < W.heap.size := by rw [hW]; simp only [World.size_alloc]; omega
  have b2 : ∀ i, W.cell? ⟨w.heap.size + 1, i, none⟩ = (#[.slice (some ⟨bx, 0, none⟩) x.ws.length cx, .int .i64 x.off, .int .i64 x.n, .int .i64 x.inc] : Array Value)[i]? := by intro i; rw [hW]; go_simp
  have s3 : w.heap.size + 1 + 1 < W.heap.size := by rw [hW]; simp only [World.size_alloc]; omega
  have b3 : ∀ i, W.cell? ⟨w.heap.size + 1 + 1, i, none⟩ = (#[.slice (some ⟨g, 0, none⟩) y.ws.length cg, .int .i64 y.off, .int .i64 y.n, .int .i64 y.inc] : Array Value)[i]? := by intro i; rw [hW]; go_simp
  have g0 : Grew w W := by rw [hW]; exact (((Grew.refl _).alloc _).alloc _).alloc _
  clear hW
  have zW := g0.below.size
  have bw : ∀ w', But W [g] w' → But w [g] w' := fun w' h => ((But.refl w [g]).grew g0).trans h (fun _ hb => .inl hb)
  have c1 : ∀ w', But W [g] w' → ∀ i, w'.cell? ⟨w.heap.size, i, none⟩ = (#[.slice (some ⟨bm, 0, none⟩) m.ws.length cm, .int .i64 m.off, .int .i64 m.rows, .int .i64 m.cols, .int .i64 m.ld] : Array Value)[i]? := fun w' h i => (h.cell s1 (by simp; omega)).trans (b1 i)
  have c2 : ∀ w', But W [g] w' → ∀ i, w'.cell? ⟨w.heap.size + 1, i, none⟩ = (#[.slice (some ⟨bx, 0, none⟩) x.ws.length cx, .int .i64 x.off, .int .i64 x.n, .int .i64 x.inc] : Array Value)[i]? := fun w' h i => (h.cell s2 (by simp; omega)).trans (b2 i)
  have c3 : ∀ w', But W [g] w' → ∀ i, w'.cell? ⟨w.heap.size + 1 + 1, i, none⟩ = (#[.slice (some ⟨g, 0, none⟩) y.ws.length cg, .int .i64 y.off, .int .i64 y.n, .int .i64 y.inc] : Array Value)[i]? := fun w' h i => (h.cell s3 (by simp; omega)).trans (b3 i)
  have cA : ∀ w', But w [g] w' → ∀ i, w'.cell? ⟨Ta, i, none⟩ = (#[.float .f64 a] : Array Value)[i]? := fun w' h i => (h.cell kTa (by simpa using nTa)).trans (hca i)
  have hFW := hF.grew g0
  clear b1 b2 b3
  have t2 := c2 _ (But.refl W [g])
  go_wp2
  clear t2
  go_loopw [13] (fun c wr => ∃ (j : Nat) (L : List Nat), (j : Int) ≤ x.n ∧ c = .int .i64 j ∧ But W [g] wr ∧ FW wr g L ∧ VH y L (fun r => mulTo α m.num x.num (s0 r) r j)) (fun c _ => (x.n - intOf c).toNat)
  case atStart => exact ⟨0, L0, hnx.1, rfl, But.refl _ _, hFW, hV⟩
  case round =>
    obtain ⟨j, L, hj, rfl, hB, hL, hS⟩ := hrel
    have t1 := c1 _ hB
    have zB := hB.size
    have k1 : w.heap.size < wr.heap.size := by omega
    have t3 := c3 _ hB
    have k3 : w.heap.size + 1 + 1 < wr.heap.size := by omega
    by_cases hlt : (j : Int) < x.n
    · have hlt' := hid hlt
      have hjm : (j : Int) < m.cols := by have := Hxn.out; omega
      have hcj := hcolA wr L _ (bw _ hB) hL hS j hjm
      go_wp2_with (first | (go_at_call 149; ((with_reducible refine (hcj).mono ?_); rintro e w1 ⟨rfl, oc, nc, rfl⟩)))
      refine name_any (fun V hV => ?_)
      have gV : Grew wr V := by rw [← hV]; (show Grew _ _; repeat (first | (with_reducible exact Grew.refl _) | (with_reducible assumption) | (with_reducible refine Grew.ext ?_ _ _) | (with_reducible refine Grew.alloc ?_ _) | ((with_reducible refine Grew.setCell ?_ ?_ _); rotate_left; (focus (dsimp only; first | omega | (simp only [size_ext, World.size_alloc, Array.size_append]; omega)))) | (with_reducible refine Grew.drewN ?_ _) | (with_reducible refine Grew.drew ?_)))
      have BV : But W [g] V := hB.grew gV
      have cT : ∀ i, V.cell? ⟨wr.heap.size + oc.size, i, none⟩ = (#[.slice (some ⟨bm, 0, none⟩) m.ws.length cm, .int .i64 (m.off + j * m.ld), .int .i64 m.rows, .int .i64 1] : Array Value)[i]? := by subst hV; intro i; go_simp
      have kV : wr.heap.size + oc.size < V.heap.size := by rw [← hV]; simp only [World.size_alloc, size_ext]; omega
      obtain ⟨T, hT⟩ : ∃ T, wr.heap.size + oc.size = T := ⟨_, rfl⟩
      have zT : wr.heap.size ≤ T := by omega
      rw [hT] at cT kV
      simp only [hT]
      have ltg2 := hL.lt
      have cV : ∀ w', But V [g] w' → ∀ i, w'.cell? ⟨T, i, none⟩ = (#[.slice (some ⟨bm, 0, none⟩) m.ws.length cm, .int .i64 (m.off + j * m.ld), .int .i64 m.rows, .int .i64 1] : Array Value)[i]? := fun w' h i => (h.cell kV (by simp; omega)).trans (cT i)
      have bV : ∀ w', But V [g] w' → But W [g] w' := fun w' h => BV.trans h (fun _ hb => .inl hb)
      have hLV : FW V g L := hL.grew gV
      clear hV hT cT t3
      go_loopw [21] (fun c wr => ∃ (i : Nat) (L : List Nat), (i : Int) ≤ y.n ∧ c = .int .i64 i ∧ But V [g] wr ∧ FW wr g L ∧ VH y L (fun r => if r < i then mulTo α m.num x.num (s0 r) r (j + 1) else mulTo α m.num x.num (s0 r) r j)) (fun c _ => (y.n - intOf c).toNat)
      case atStart => exact ⟨0, L, hny.1, rfl, But.refl _ _, hLV, hS.congr fun r _ => by simp⟩
      case round =>
        obtain ⟨i, L2, hi, rfl, hB2, hL2, hS2⟩ := hrel
        by_cases hli : (i : Int) < y.n
        · have hli' := hid hli
          have him : (i : Int) < m.rows := by have := Hyn.out; omega
          have tT := cV _ hB2
          have t2 := c2 _ (bV _ hB2)
          have t3 := c3 _ (bV _ hB2)
          have zB2 := hB2.size
          have zBV := BV.size
          have x1 : T < wr.heap.size := by omega
          have x2 : w.heap.size + 1 < wr.heap.size := by omega
          have x3 : w.heap.size + 1 + 1 < wr.heap.size := by omega
          have hgi := hS2.get i hli
          obtain ⟨r0, hr0, hf0⟩ := hL2.get (i := y.place i) (by rw [hS2.len]; exact VecM.place_lt Hy.out hli)
          rw [hgi, if_neg (by omega)] at hf0
          obtain ⟨rm, hrm, hfm⟩ := rdm i j him hjm wr L2 _ (bw _ (bV _ hB2)) hL2 hS2
          obtain ⟨rx, hrx, hfx⟩ := rdx j hlt'.out wr L2 _ (bw _ (bV _ hB2)) hL2 hS2
          have gl := hL2.lt
          have kbm2 : bm < wr.heap.size := by omega
          have kbx2 : bx < wr.heap.size := by omega
          have kTa2 : Ta < wr.heap.size := by omega
          have fz : ∀ i, wr.frozen? ⟨g, i, none⟩ = false := hL2.notFrozen
          have hca2 : ∀ w', Grew wr w' → ∀ i, w'.cell? ⟨Ta, i, none⟩ = (#[.float .f64 a] : Array Value)[i]? := fun w' hg => cA _ (bw _ (bV _ (hB2.grew hg)))
          have hay := haty i hli
          have hax := hatx j hlt'.out
          have ham := hatm i j him hjm
          go_wp2
          refine wp_region_R (Grew wr) [19] [(0,0), (3,1), (3,5), (0,6), (3,7), (0,11), (3,12), (1,2), (3,3), (0,4), (1,8), (3,9), (0,10), (1,13), (3,14), (0,15), (1,16), (1,17), (3,18), (2,19)] (by kernel_rfl) (by kernel_rfl) (fun _ _ _ _ h _ => h) (by first | exact ⟨_, _, ext_drew⟩ | exact ⟨_, _, drew_ext0⟩) ?_
          go_wp2_with (first | ((with_reducible refine wpR_id ?_); first | (refine wpR_take (v := ?_) rfl rfl ?_ ?_; rotate_left; (focus (rintro w' ⟨o', n', rfl⟩; go_simp; try with_reducible rfl)); simp only [Act.put, List.setIfInBounds_toArray, List.set_cons_zero, List.set_cons_succ]) | (refine wpR_pure (v := ?_) rfl rfl ?_ ?_; rotate_left; (focus (intro w'; go_simp; try with_reducible rfl)); simp only [Act.put, List.setIfInBounds_toArray, List.set_cons_zero, List.set_cons_succ]) | (refine wpR_takeG (v := ?_) rfl rfl rfl rfl rfl ?_ ?_; rotate_left; (focus (rintro w' ⟨o', n', rfl⟩; go_simp; try with_reducible rfl)); simp only [Act.put, List.setIfInBounds_toArray, List.set_cons_zero, List.set_cons_succ]) | (refine wpR_skip rfl rfl rfl rfl rfl rfl ?_; simp only [Act.put, List.setIfInBounds_toArray, List.set_cons_zero, List.set_cons_succ]) | (refine wpR_skipU rfl rfl rfl rfl rfl ?_; simp only [Act.put, List.setIfInBounds_toArray, List.set_cons_zero, List.set_cons_succ]) | (refine wpR_do rfl rfl (fun K hK => ?_)) | (refine wpR_doG rfl rfl rfl rfl rfl (fun K hK => ?_)) | (refine wpR_last rfl rfl (fun K hK => ?_)) | (refine wpR_nil ?_)) | ((with_reducible refine wpR_go ?_ ?_); (focus exact ⟨_, _, rfl⟩)) | ((with_reducible refine upon_id ?_); refine upon_fop rfl (by assumption) (by assumption) ?_; intro rr nn hr) | (go_at_call 160; ((with_reducible refine (hay _).mono ?_); rintro e w1 ⟨rfl, o1, n1, rfl⟩)) | (go_at_call 160; ((with_reducible refine (ham _).mono ?_); rintro e w1 ⟨rfl, o2, n2, rfl⟩)) | (go_at_call 160; ((with_reducible refine (hax _).mono ?_); rintro e w1 ⟨rfl, o3, n3, rfl⟩)) | (go_at_call 147; ((with_reducible refine (hmc rm _ rx _ _ hfm hfx (hca2 _ (by (show Grew _ _; repeat (first | (with_reducible exact Grew.refl _) | (with_reducible assumption) | (with_reducible refine Grew.ext ?_ _ _) | (with_reducible refine Grew.alloc ?_ _) | ((with_reducible refine Grew.setCell ?_ ?_ _); rotate_left; (focus (dsimp only; first | omega | (simp only [size_ext, World.size_alloc, Array.size_append]; omega)))) | (with_reducible refine Grew.drewN ?_ _) | (with_reducible refine Grew.drew ?_)))))).mono ?_); rintro e w1 ⟨rc, rfl, hrc, o4, n4, rfl⟩)))
          go_roundw
          case rel =>
            refine ⟨i + 1, _, by have := hli'.out; omega, by go_num, (hB2.setc hL2 (by simp)).grew ⟨_, _, rfl⟩, (hL2.setc (k := y.place i) hr).ext _ _, (hS2.set Hy.out hli'.out).congr fun r hr => ?_⟩
            by_cases e : r = i
            · subst e; simp [mulTo]; rfl
            · rw [if_neg e]
              by_cases h2 : r < i
              · rw [if_pos h2, if_pos (by omega)]
              · rw [if_neg h2, if_neg (by omega)]
          case measure => (have := hli'.out; simp [intOf]; omega)
        · go_wp2
          go_roundw
          case rel => exact ⟨j + 1, L2, by have := hlt'.out; omega, by go_num, bV _ hB2, hL2, hS2.congr fun r hr => by rw [if_pos (by omega)]⟩
          case measure => (have := hlt'.out; simp [intOf]; omega)
    · have e : j = x.n.toNat := by omega
      go_wp2
      go_end0
      exact ⟨rfl, bw _ hB, L, hL, hS.congr fun r hr => by rw [e]⟩
end Go.Proofs.Ytcmggfpcbijcjaa
