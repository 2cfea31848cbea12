/-
  Contract: straightedgeref09.Solve, kinds 1 and 3.
-/
import Derived.Test.YtcmggfpcbijcjaaRef9
import Derived.Test.YtcmggfpcbijcjaaTrsv2
import Derived.Test.YtcmggfpcbijcjaaSeg
set_option linter.unusedSimpArgs false
set_option linter.unusedVariables false
open Go Go.RowKit Sedge
namespace Go.Proofs.Ytcmggfpcbijcjaa
def vecL (l : List Nat) : VecM := ⟨l, 0, l.length, 1⟩
theorem vecL_place (l : List Nat) (r : Nat) : (vecL l).place r = r := by unfold VecM.place vecL; simp
theorem vecL_right (l : List Nat) : (vecL l).right = true := by
  unfold VecM.right vecL fitsB
  simp only [Bool.and_eq_true, Bool.or_eq_true, decide_eq_true_eq]
  omega
theorem _root_.Sedge.VH.less' {l L : List Nat} {s : Nat → Nat} (h : VH (vecL l) L s) {i k a : Nat} (hi : i < l.length) (hk : k < l.length) : VH (vecL l) (L.set i (fsub (L.getD i 0) (fmul a (L.getD k 0)))) (lessF s i k a) := by
  have := h.less (vecL_right l) (i := i) (k := k) (a := a) (by show (i : Int) < (l.length : Int); omega) (by show (k : Int) < (l.length : Int); omega)
  rwa [vecL_place, vecL_place] at this
theorem _root_.Sedge.VH.div' {l L : List Nat} {s : Nat → Nat} (h : VH (vecL l) L s) {i a : Nat} (hi : i < l.length) : VH (vecL l) (L.set i (fdiv (L.getD i 0) a)) (divF s i a) := by
  have := h.div (vecL_right l) (i := i) (a := a) (by show (i : Int) < (l.length : Int); omega)
  rwa [vecL_place] at this
theorem _root_.Sedge.VH.start' (l : List Nat) (s : Nat → Nat) (h : ∀ r, r < l.length → l.getD r 0 = s r) : VH (vecL l) l s := ⟨rfl, fun r hr => by rw [vecL_place]; exact h r (by have : (r : Int) < (l.length : Int) := hr; omega), fun _ _ => rfl⟩
theorem _root_.Sedge.VH.list' {l L : List Nat} {s t : Nat → Nat} (h : VH (vecL l) L s) (e : ∀ r, r < l.length → s r = t r) : L = (List.range l.length).map t := by
  have hl : L.length = l.length := h.len
  apply List.ext_getElem?
  intro q
  by_cases hq : q < l.length
  · have e1 := h.get q (by show (q : Int) < (l.length : Int); omega)
    rw [vecL_place, List.getD_eq_getElem?_getD, List.getElem?_eq_getElem (by omega)] at e1
    rw [List.getElem?_map, List.getElem?_range hq, List.getElem?_eq_getElem (by omega)]
    simp only [Option.getD_some] at e1
    simp [e1, e q hq]
  · rw [List.getElem?_eq_none (by omega), List.getElem?_eq_none (by simp; omega)]
def zeroF (k : Int) (M : Nat → Nat → Nat) (n : Nat) : Bool := (decide (k = 2) || decide (k = 4)) && (List.range n).any fun i => feq0 (M i i)
theorem zeroF_succ (k : Int) (M : Nat → Nat → Nat) (n : Nat) : zeroF k M (n + 1) = (zeroF k M n || ((decide (k = 2) || decide (k = 4)) && feq0 (M n n))) := by
  unfold zeroF; rw [List.range_succ, List.any_append]
  cases (decide (k = 2) || decide (k = 4)) <;> simp
theorem zeroF_mono {k : Int} {M : Nat → Nat → Nat} {m n : Nat} (h : zeroF k M m = true) (hmn : m ≤ n) : zeroF k M n = true := by
  unfold zeroF at *
  simp only [Bool.and_eq_true, List.any_eq_true, List.mem_range] at *
  obtain ⟨h1, t, h2, h3⟩ := h
  exact ⟨h1, t, by omega, h3⟩
set_option maxRecDepth 100000 in
set_option maxHeartbeats 2000000 in
theorem rsolve_1 (N : Nat) (T l : List Nat) (M : Nat → Nat → Nat) (A X : Value) (w : World) (hA : FS w A T) (hX : FS w X l) (hn : l.length = N) (hT : T.length = N * N) (hM : ∀ i j, i < N → j < N → T.getD (i * N + j) 0 = M i j) (s0 : Nat → Nat) (hs0 : ∀ r, r < N → l.getD r 0 = s0 r) (hN : N ≤ 1000) :
   Calls Try.prog 80 #[.int .i64 1, .agg #[.int .i64 N, .int .i64 N, A], X] w (fun e w' => ∃ v L, e = .returned (.tuple #[v, .bool true]) ∧ FS w' v L ∧ L = (List.range N).map (solveF M N 1 s0) ∧ ∃ o n, w' = ext w o n) := by
  obtain ⟨aA, cA, rfl⟩ := hA.shape
  have HT := hid hT
  have Hn := hid hn
  have hlX : l.length ≤ 1000 := by omega
  obtain ⟨aX, cX, rfl⟩ := hX.shape
  have hat : ∀ i j : Nat, i < N → j < N → ∀ w', FS w' (.slice aA T.length cA) T → Calls Try.prog 72 #[.agg #[.int .i64 N, .int .i64 N, .slice aA T.length cA], .int .i64 i, .int .i64 j] w' (fun e w2 => ∃ b, e = .returned (.float .f64 b) ∧ IsF b (M i j) ∧ ∃ o n, w2 = ext w' o n) := fun i j hi hj w' h => by
    have := rat_any N N i j (.slice aA T.length cA) T w' h hN hN (by omega) (by omega) (by rw [hT]; exact at_lt hi hj)
    rw [hM i j hi hj] at this; exact this
  have hV0 : VH (vecL l) l s0 := VH.start' l s0 (by rw [hn]; exact hs0)
  clear hT hn hM hs0
  go_enter Try.func80, Try.ntmps80
  refine seq_stop ?_
  go_wp2
  refine stop_go (fun W hW => ?_)
  have s1 : w.heap.size < W.heap.size := by rw [hW]; simp only [World.size_alloc]; omega
  have b1 : ∀ i, W.cell? ⟨w.heap.size, i, none⟩ = (#[.int .i64 N, .int .i64 N, .slice aA T.length cA] : Array Value)[i]? := by intro i; rw [hW]; go_simp
  have g0 : Grew w W := by rw [hW]; exact (Grew.refl _).alloc _
  clear hW
  have hAW : FS W (.slice aA T.length cA) T := hA.grew g0
  have hXW : FS W (.slice aX l.length cX) l := hX.grew g0
  go_wp2_with (at_builtin; refine appendN_f finfo (Grew.refl W |>.alloc _) (OwnF.empty rfl (Nat.le_refl _)) (FS.alloc hXW _) (by simp; omega) _ _ rfl rfl rfl rfl ?_; intro v oo nn ho hn; obtain ⟨g, cap, rfl, hg, hF, hL⟩ := ho.ws (hn notnil) (by simp; omega); simp only [List.nil_append] at hF hL)
  refine name_any (fun V hV => ?_)
  have gV : Grew W V := by rw [← hV]; (show Grew _ _; repeat (first | (with_reducible exact Grew.refl _) | (with_reducible assumption) | (with_reducible refine Grew.ext ?_ _ _) | (with_reducible refine Grew.alloc ?_ _) | ((with_reducible refine Grew.setCell ?_ ?_ _); rotate_left; (focus (dsimp only; first | omega | (simp only [size_ext, World.size_alloc, Array.size_append]; omega)))) | (with_reducible refine Grew.drewN ?_ _) | (with_reducible refine Grew.drew ?_)))
  have sV := gV.below.size
  have hFV : FW V g l := by rw [← hV]; (repeat (first | (with_reducible assumption) | ((with_reducible refine FW.ext_set ?_ ?_ ?_ _); rotate_left; (focus (simp only [size_setCell', World.size_alloc, size_ext, size_upd]; omega)); (focus (dsimp only; omega))) | ((with_reducible refine FW.setCell_ne ?_ ?_ _); rotate_left; (focus (dsimp only; omega))) | (with_reducible refine FW.ext ?_ _ _) | (with_reducible refine FW.alloc ?_ _)))
  have hG : ∀ k ∈ [g], W.heap.size ≤ k := by intro k hk; simp at hk; omega
  have hDu := But.fs gV hAW hG
  have cU := But.boxW gV s1 b1 hG
  have bw : ∀ w', But V [g] w' → Grew w w' := fun w' h => g0.trans (h.grew0 gV hG)
  have kV : w.heap.size < V.heap.size := by omega
  clear hV b1 hA hX hAW hXW ho
  go_loopw [10] (fun c wr => ∃ i : Nat, i ≤ N ∧ c = .int .i64 i ∧ But V [g] wr ∧ FW wr g l) (fun c _ => N - (intOf c).toNat)
  case atStart => exact ⟨0, Nat.zero_le _, rfl, But.refl _ _, hFV⟩
  case round =>
    obtain ⟨i, hi, rfl, hB0, hL0⟩ := hrel
    have tT0 := cU _ hB0
    by_cases hlt : (i : Int) < N
    · go_wp2
      go_roundw
      case rel => exact ⟨i + 1, by omega, by go_num, hB0, hL0⟩
      case measure => simp [intOf]; omega
    · go_wp2
      clear tT0
      go_loopw [11] (fun c wr => ∃ (i : Nat) (L : List Nat), i ≤ N ∧ c = .int .i64 i ∧ But V [g] wr ∧ FW wr g L ∧ VH (vecL l) L (rowAll M s0 i)) (fun c _ => N - (intOf c).toNat)
      case atStart => exact ⟨0, l, Nat.zero_le _, rfl, hB0, hL0, hV0⟩
      case round =>
        obtain ⟨p, L, hp, rfl, hB, hL, hS⟩ := hrel
        by_cases hlt2 : (p : Int) < N
        · go_wp2
          have hpN : p < N := by omega
          go_loopw [12] (fun c wr => ∃ (t : Nat) (L : List Nat), t ≤ p ∧ c = .int .i64 t ∧ But V [g] wr ∧ FW wr g L ∧ VH (vecL l) L (rowIn M (rowAll M s0 p) p t)) (fun c _ => p - (intOf c).toNat)
          case atStart => exact ⟨0, L, Nat.zero_le _, rfl, hB, hL, hS⟩
          case round =>
            obtain ⟨t, L2, ht, rfl, hB2, hL2, hS2⟩ := hrel
            by_cases hl2 : (t : Int) < p
            · have hcA : ∀ w', Grew wr w' → Calls Try.prog 72 #[.agg #[.int .i64 N, .int .i64 N, .slice aA T.length cA], .int .i64 p, .int .i64 t] w' (fun e w2 => ∃ b, e = .returned (.float .f64 b) ∧ IsF b (M p t) ∧ ∃ o' n', w2 = ext w' o' n') := fun w' gw => hat p t hpN (by omega) _ (hDu _ (hB2.grew gw))
              have tT2 := cU _ hB2
              have zB := hB2.size
              have kT2 : w.heap.size < wr.heap.size := by omega
              obtain ⟨r0, hr0, hf0⟩ := hL2.get (i := p) (by have := hS2.len; have e : (vecL l).ws.length = l.length := rfl; have := Hn.out; omega)
              obtain ⟨y0, hy0, hg0⟩ := hL2.get (i := t) (by have := hS2.len; have e : (vecL l).ws.length = l.length := rfl; have := Hn.out; omega)
              have gl := hL2.lt
              have fz : ∀ i, wr.frozen? ⟨g, i, none⟩ = false := hL2.notFrozen
              have lp : (p : Int) < l.length := by have := Hn.out; omega
              have lt : ((t : Nat) : Int) < l.length := by have := Hn.out; omega
              go_wp2
              refine wp_region_R (Grew wr) [16] [(3,0), (3,1), (3,2), (3,3), (3,4), (0,5), (0,6), (3,7), (3,8), (3,10), (3,11), (3,12), (0,13), (1,9), (1,14), (3,15), (2,16)] (by kernel_rfl) (by kernel_rfl) (fun _ _ _ _ h _ => h) (by first | exact ⟨_, _, ext_drew⟩ | exact ⟨_, _, drew_ext0⟩) ?_
              go_wp2_with (first | ((with_reducible refine wpR_id ?_); first | (refine wpR_take (v := ?_) rfl rfl ?_ ?_; rotate_left; (focus (rintro w' ⟨o', n', rfl⟩; go_simp; try with_reducible rfl)); simp only [Act.put, List.setIfInBounds_toArray, List.set_cons_zero, List.set_cons_succ]) | (refine wpR_pure (v := ?_) rfl rfl ?_ ?_; rotate_left; (focus (intro w'; go_simp; try with_reducible rfl)); simp only [Act.put, List.setIfInBounds_toArray, List.set_cons_zero, List.set_cons_succ]) | (refine wpR_takeG (v := ?_) rfl rfl rfl rfl rfl ?_ ?_; rotate_left; (focus (rintro w' ⟨o', n', rfl⟩; go_simp; try with_reducible rfl)); simp only [Act.put, List.setIfInBounds_toArray, List.set_cons_zero, List.set_cons_succ]) | (refine wpR_skip rfl rfl rfl rfl rfl rfl ?_; simp only [Act.put, List.setIfInBounds_toArray, List.set_cons_zero, List.set_cons_succ]) | (refine wpR_skipU rfl rfl rfl rfl rfl ?_; simp only [Act.put, List.setIfInBounds_toArray, List.set_cons_zero, List.set_cons_succ]) | (refine wpR_do rfl rfl (fun K hK => ?_)) | (refine wpR_doG rfl rfl rfl rfl rfl (fun K hK => ?_)) | (refine wpR_last rfl rfl (fun K hK => ?_)) | (refine wpR_nil ?_)) | ((with_reducible refine wpR_go ?_ ?_); (focus exact ⟨_, _, rfl⟩)) | ((with_reducible refine upon_id ?_); refine upon_fop rfl (by assumption) (by assumption) ?_; intro rr nn hr) | (go_at_call 72; ((with_reducible refine (hcA _ (by (show Grew _ _; repeat (first | (with_reducible exact Grew.refl _) | (with_reducible assumption) | (with_reducible refine Grew.ext ?_ _ _) | (with_reducible refine Grew.alloc ?_ _) | ((with_reducible refine Grew.setCell ?_ ?_ _); rotate_left; (focus (dsimp only; first | omega | (simp only [size_ext, World.size_alloc, Array.size_append]; omega)))) | (with_reducible refine Grew.drewN ?_ _) | (with_reducible refine Grew.drew ?_))))).mono ?_); rintro e w1 ⟨r, rfl, hr, o1, n1, rfl⟩)) | (go_at_call 157; ((with_reducible refine (rsub_any r0 r y0 _ _ _ _ hf0 hr hg0).mono ?_); rintro e w1 ⟨r2, rfl, hr2, o2, n2, rfl⟩)))
              go_roundw
              case rel => exact ⟨t + 1, _, by omega, by go_num, (hB2.setc hL2 (by simp)).grew ⟨_, _, rfl⟩, (hL2.setc (k := p) hr2).ext _ _, hS2.less' (by have := Hn.out; omega) (by have := Hn.out; omega)⟩
              case measure => simp [intOf]; omega
            · have e : t = p := by omega
              go_wp2
              go_roundw
              case rel => exact ⟨p + 1, L2, by omega, by go_num, hB2, hL2, by rw [e] at hS2; exact hS2⟩
              case measure => simp [intOf]; omega
        · have e : p = N := by omega
          go_wp2
          refine bodyPost_ret (v := .tuple #[.slice (some ⟨g, 0, none⟩) l.length cap, .bool true]) (by simp [results, Try.results80, go_sem, *]) rfl ?_
          refine ⟨_, rfl, L, ?_, ?_, bw _ hB⟩
          · have := hL.fs (by have := hS.len; have e : (vecL l).ws.length = l.length := rfl; omega) cap; rw [hS.len] at this; exact this
          · rw [← Hn.out]; exact hS.list' (fun r hr => by subst e; unfold solveF; rw [if_pos rfl, Hn.out])
set_option maxRecDepth 100000 in
set_option maxHeartbeats 2000000 in
theorem rsolve_3 (N : Nat) (T l : List Nat) (M : Nat → Nat → Nat) (A X : Value) (w : World) (hA : FS w A T) (hX : FS w X l) (hn : l.length = N) (hT : T.length = N * N) (hM : ∀ i j, i < N → j < N → T.getD (i * N + j) 0 = M i j) (s0 : Nat → Nat) (hs0 : ∀ r, r < N → l.getD r 0 = s0 r) (hN : N ≤ 1000) :
   Calls Try.prog 80 #[.int .i64 3, .agg #[.int .i64 N, .int .i64 N, A], X] w (fun e w' => ∃ v L, e = .returned (.tuple #[v, .bool true]) ∧ FS w' v L ∧ L = (List.range N).map (solveF M N 3 s0) ∧ ∃ o n, w' = ext w o n) := by
  obtain ⟨aA, cA, rfl⟩ := hA.shape
  have HT := hid hT
  have Hn := hid hn
  have hlX : l.length ≤ 1000 := by omega
  obtain ⟨aX, cX, rfl⟩ := hX.shape
  have hat : ∀ i j : Nat, i < N → j < N → ∀ w', FS w' (.slice aA T.length cA) T → Calls Try.prog 72 #[.agg #[.int .i64 N, .int .i64 N, .slice aA T.length cA], .int .i64 i, .int .i64 j] w' (fun e w2 => ∃ b, e = .returned (.float .f64 b) ∧ IsF b (M i j) ∧ ∃ o n, w2 = ext w' o n) := fun i j hi hj w' h => by
    have := rat_any N N i j (.slice aA T.length cA) T w' h hN hN (by omega) (by omega) (by rw [hT]; exact at_lt hi hj)
    rw [hM i j hi hj] at this; exact this
  have hV0 : VH (vecL l) l s0 := VH.start' l s0 (by rw [hn]; exact hs0)
  clear hT hn hM hs0
  go_enter Try.func80, Try.ntmps80
  refine seq_stop ?_
  go_wp2
  refine stop_go (fun W hW => ?_)
  have s1 : w.heap.size < W.heap.size := by rw [hW]; simp only [World.size_alloc]; omega
  have b1 : ∀ i, W.cell? ⟨w.heap.size, i, none⟩ = (#[.int .i64 N, .int .i64 N, .slice aA T.length cA] : Array Value)[i]? := by intro i; rw [hW]; go_simp
  have g0 : Grew w W := by rw [hW]; exact (Grew.refl _).alloc _
  clear hW
  have hAW : FS W (.slice aA T.length cA) T := hA.grew g0
  have hXW : FS W (.slice aX l.length cX) l := hX.grew g0
  go_wp2_with (at_builtin; refine appendN_f finfo (Grew.refl W |>.alloc _) (OwnF.empty rfl (Nat.le_refl _)) (FS.alloc hXW _) (by simp; omega) _ _ rfl rfl rfl rfl ?_; intro v oo nn ho hn; obtain ⟨g, cap, rfl, hg, hF, hL⟩ := ho.ws (hn notnil) (by simp; omega); simp only [List.nil_append] at hF hL)
  refine name_any (fun V hV => ?_)
  have gV : Grew W V := by rw [← hV]; (show Grew _ _; repeat (first | (with_reducible exact Grew.refl _) | (with_reducible assumption) | (with_reducible refine Grew.ext ?_ _ _) | (with_reducible refine Grew.alloc ?_ _) | ((with_reducible refine Grew.setCell ?_ ?_ _); rotate_left; (focus (dsimp only; first | omega | (simp only [size_ext, World.size_alloc, Array.size_append]; omega)))) | (with_reducible refine Grew.drewN ?_ _) | (with_reducible refine Grew.drew ?_)))
  have sV := gV.below.size
  have hFV : FW V g l := by rw [← hV]; (repeat (first | (with_reducible assumption) | ((with_reducible refine FW.ext_set ?_ ?_ ?_ _); rotate_left; (focus (simp only [size_setCell', World.size_alloc, size_ext, size_upd]; omega)); (focus (dsimp only; omega))) | ((with_reducible refine FW.setCell_ne ?_ ?_ _); rotate_left; (focus (dsimp only; omega))) | (with_reducible refine FW.ext ?_ _ _) | (with_reducible refine FW.alloc ?_ _)))
  have hG : ∀ k ∈ [g], W.heap.size ≤ k := by intro k hk; simp at hk; omega
  have hDu := But.fs gV hAW hG
  have cU := But.boxW gV s1 b1 hG
  have bw : ∀ w', But V [g] w' → Grew w w' := fun w' h => g0.trans (h.grew0 gV hG)
  have kV : w.heap.size < V.heap.size := by omega
  clear hV b1 hA hX hAW hXW ho
  go_loopw [10] (fun c wr => ∃ i : Nat, i ≤ N ∧ c = .int .i64 i ∧ But V [g] wr ∧ FW wr g l) (fun c _ => N - (intOf c).toNat)
  case atStart => exact ⟨0, Nat.zero_le _, rfl, But.refl _ _, hFV⟩
  case round =>
    obtain ⟨i, hi, rfl, hB0, hL0⟩ := hrel
    have tT0 := cU _ hB0
    by_cases hlt : (i : Int) < N
    · go_wp2
      go_roundw
      case rel => exact ⟨i + 1, by omega, by go_num, hB0, hL0⟩
      case measure => simp [intOf]; omega
    · have r0 : IntKind.i64.wrap ((N : Int) - 1) = (N : Int) - 1 := IntWalk.i64_in _ (by omega)
      go_wp2
      clear tT0
      go_loopw [15] (fun c wr => ∃ (p : Nat) (L : List Nat), p ≤ N ∧ c = .int .i64 ((N : Int) - 1 - p) ∧ But V [g] wr ∧ FW wr g L ∧ VH (vecL l) L (rowAll3 M N s0 p)) (fun c _ => (intOf c + 1).toNat)
      case atStart => exact ⟨0, l, Nat.zero_le _, (by first | (simp; done) | (simp; first | exact r0 | simpa using r0)), hB0, hL0, hV0⟩
      case round =>
        obtain ⟨q, L, hq, rfl, hB, hL, hS⟩ := hrel
        by_cases hlt2 : 0 ≤ (N : Int) - 1 - q
        · obtain ⟨p, hi⟩ : ∃ i : Nat, (N : Int) - 1 - q = i := ⟨((N : Int) - 1 - q).toNat, by omega⟩
          have hi' := hid hi
          have hpN : p < N := by omega
          rw [hi] at hlt2
          simp only [hi]
          have hlt' := hid hlt2
          clear hi
          go_wp2
          go_loopw [16] (fun c wr => ∃ (t : Nat) (L : List Nat), p + 1 + t ≤ N ∧ c = .int .i64 ((p : Int) + 1 + t) ∧ But V [g] wr ∧ FW wr g L ∧ VH (vecL l) L (rowIn3 M (rowAll3 M N s0 q) p t)) (fun c _ => (N - intOf c).toNat)
          case atStart => exact ⟨0, L, by omega, by go_num, hB, hL, hS⟩
          case round =>
            obtain ⟨t, L2, ht, rfl, hB2, hL2, hS2⟩ := hrel
            obtain ⟨j, hj⟩ : ∃ j : Nat, (p : Int) + 1 + t = j := ⟨p + 1 + t, by omega⟩
            have hj' := hid hj
            simp only [hj]
            by_cases hl2 : (j : Int) < N
            · have hjN : j < N := by omega
              have ej := hid (show p + 1 + t = j by omega)
              clear hj
              have hcA : ∀ w', Grew wr w' → Calls Try.prog 72 #[.agg #[.int .i64 N, .int .i64 N, .slice aA T.length cA], .int .i64 j, .int .i64 p] w' (fun e w2 => ∃ b, e = .returned (.float .f64 b) ∧ IsF b (M j p) ∧ ∃ o' n', w2 = ext w' o' n') := fun w' gw => hat j p hjN hpN _ (hDu _ (hB2.grew gw))
              have tT2 := cU _ hB2
              have zB := hB2.size
              have kT2 : w.heap.size < wr.heap.size := by omega
              obtain ⟨r0, hr0, hf0⟩ := hL2.get (i := p) (by have := hS2.len; have e : (vecL l).ws.length = l.length := rfl; have := Hn.out; omega)
              obtain ⟨y0, hy0, hg0⟩ := hL2.get (i := j) (by have := hS2.len; have e : (vecL l).ws.length = l.length := rfl; have := Hn.out; omega)
              have gl := hL2.lt
              have fz : ∀ i, wr.frozen? ⟨g, i, none⟩ = false := hL2.notFrozen
              have lp : (p : Int) < l.length := by have := Hn.out; omega
              have lt : ((j : Nat) : Int) < l.length := by have := Hn.out; omega
              go_wp2
              refine wp_region_R (Grew wr) [16] [(3,0), (3,1), (3,2), (3,3), (3,4), (0,5), (0,6), (3,7), (3,8), (3,10), (3,11), (3,12), (0,13), (1,9), (1,14), (3,15), (2,16)] (by kernel_rfl) (by kernel_rfl) (fun _ _ _ _ h _ => h) (by first | exact ⟨_, _, ext_drew⟩ | exact ⟨_, _, drew_ext0⟩) ?_
              go_wp2_with (first | ((with_reducible refine wpR_id ?_); first | (refine wpR_take (v := ?_) rfl rfl ?_ ?_; rotate_left; (focus (rintro w' ⟨o', n', rfl⟩; go_simp; try with_reducible rfl)); simp only [Act.put, List.setIfInBounds_toArray, List.set_cons_zero, List.set_cons_succ]) | (refine wpR_pure (v := ?_) rfl rfl ?_ ?_; rotate_left; (focus (intro w'; go_simp; try with_reducible rfl)); simp only [Act.put, List.setIfInBounds_toArray, List.set_cons_zero, List.set_cons_succ]) | (refine wpR_takeG (v := ?_) rfl rfl rfl rfl rfl ?_ ?_; rotate_left; (focus (rintro w' ⟨o', n', rfl⟩; go_simp; try with_reducible rfl)); simp only [Act.put, List.setIfInBounds_toArray, List.set_cons_zero, List.set_cons_succ]) | (refine wpR_skip rfl rfl rfl rfl rfl rfl ?_; simp only [Act.put, List.setIfInBounds_toArray, List.set_cons_zero, List.set_cons_succ]) | (refine wpR_skipU rfl rfl rfl rfl rfl ?_; simp only [Act.put, List.setIfInBounds_toArray, List.set_cons_zero, List.set_cons_succ]) | (refine wpR_do rfl rfl (fun K hK => ?_)) | (refine wpR_doG rfl rfl rfl rfl rfl (fun K hK => ?_)) | (refine wpR_last rfl rfl (fun K hK => ?_)) | (refine wpR_nil ?_)) | ((with_reducible refine wpR_go ?_ ?_); (focus exact ⟨_, _, rfl⟩)) | ((with_reducible refine upon_id ?_); refine upon_fop rfl (by assumption) (by assumption) ?_; intro rr nn hr) | (go_at_call 72; ((with_reducible refine (hcA _ (by (show Grew _ _; repeat (first | (with_reducible exact Grew.refl _) | (with_reducible assumption) | (with_reducible refine Grew.ext ?_ _ _) | (with_reducible refine Grew.alloc ?_ _) | ((with_reducible refine Grew.setCell ?_ ?_ _); rotate_left; (focus (dsimp only; first | omega | (simp only [size_ext, World.size_alloc, Array.size_append]; omega)))) | (with_reducible refine Grew.drewN ?_ _) | (with_reducible refine Grew.drew ?_))))).mono ?_); rintro e w1 ⟨r, rfl, hr, o1, n1, rfl⟩)) | (go_at_call 157; ((with_reducible refine (rsub_any r0 r y0 _ _ _ _ hf0 hr hg0).mono ?_); rintro e w1 ⟨r2, rfl, hr2, o2, n2, rfl⟩)))
              go_roundw
              case rel => exact ⟨t + 1, _, by (have := ej.out; omega), by (have := hj'.out; go_num), (hB2.setc hL2 (by simp)).grew ⟨_, _, rfl⟩, (hL2.setc (k := p) hr2).ext _ _, by have := hS2.less' (i := p) (k := j) (a := M j p) (by have := Hn.out; omega) (by have := Hn.out; omega); unfold rowIn3; rw [ej.out]; exact this⟩
              case measure => (have := hj'.out; simp [intOf] <;> omega)
            · have e : t = q := by have := hi'.out; omega
              go_wp2
              go_roundw
              case rel => exact ⟨q + 1, L2, by have := hi'.out; omega, by (have := hi'.out; go_num), hB2, hL2, by subst e; unfold rowAll3; rw [show N - 1 - t = p by have := hi'.out; omega]; exact hS2⟩
              case measure => (have := hi'.out; simp [intOf] <;> omega)
        · have e : q = N := by omega
          go_wp2
          refine bodyPost_ret (v := .tuple #[.slice (some ⟨g, 0, none⟩) l.length cap, .bool true]) (by simp [results, Try.results80, go_sem, *]) rfl ?_
          refine ⟨_, rfl, L, ?_, ?_, bw _ hB⟩
          · have := hL.fs (by have := hS.len; have e : (vecL l).ws.length = l.length := rfl; omega) cap; rw [hS.len] at this; exact this
          · rw [← Hn.out]; exact hS.list' (fun r hr => by subst e; unfold solveF; rw [if_neg (by decide), if_neg (by decide), if_pos rfl, Hn.out])
end Go.Proofs.Ytcmggfpcbijcjaa
