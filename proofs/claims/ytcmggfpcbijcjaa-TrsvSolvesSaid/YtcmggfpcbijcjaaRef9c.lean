/-
  Contract: straightedgeref09.Solve, kinds 2 and 4; and all kinds.
-/
import Derived.Test.YtcmggfpcbijcjaaRef9b
set_option linter.unusedSimpArgs false
set_option linter.unusedVariables false
open Go Go.RowKit Sedge
namespace Go.Proofs.Ytcmggfpcbijcjaa
set_option maxRecDepth 100000 in
set_option maxHeartbeats 2000000 in
theorem rsolve_2 (N : Nat) (T l : List Nat) (M : Nat → Nat → Nat) (A X : Value) (w : World) (hA : FS w A T) (hX : FS w X l) (hn : l.length = N) (hT : T.length = N * N) (hM : ∀ i j, i < N → j < N → T.getD (i * N + j) 0 = M i j) (s0 : Nat → Nat) (hs0 : ∀ r, r < N → l.getD r 0 = s0 r) (hN : N ≤ 1000) :
   Calls Try.prog 80 #[.int .i64 2, .agg #[.int .i64 N, .int .i64 N, A], X] w (fun e w' => ∃ v L, e = .returned (.tuple #[v, .bool (!zeroF 2 M N)]) ∧ FS w' v L ∧ (zeroF 2 M N = false → L = (List.range N).map (solveF M N 2 s0)) ∧ ∃ o n, w' = ext w o n) := by
  obtain ⟨aA, cA, rfl⟩ := hA.shape
  have HT := hid hT
  have Hn := hid hn
  have hlX : l.length ≤ 1000 := by omega
  obtain ⟨aX, cX, rfl⟩ := hX.shape
  have hat : ∀ i j : Nat, i < N → j < N → ∀ w', FS w' (.slice aA T.length cA) T → Calls Try.prog 72 #[.agg #[.int .i64 N, .int .i64 N, .slice aA T.length cA], .int .i64 i, .int .i64 j] w' (fun e w2 => ∃ b, e = .returned (.float .f64 b) ∧ IsF b (M i j) ∧ ∃ o n, w2 = ext w' o n) := fun i j hi hj w' h => by
    have := rat_any N N i j (.slice aA T.length cA) T w' h hN hN (by omega) (by omega) (by rw [hT]; exact at_lt hi hj)
    rw [hM i j hi hj] at this; exact this
  have hS := hid (fun n => zeroF_succ 2 M n)
  have hV0 : VH (vecL l) l s0 := VH.start' l s0 (by rw [hn]; exact hs0)
  clear hT hn hM hs0
  go_enter Try.func80, Try.ntmps80
  refine seq_stop ?_
  go_wp2
  refine stop_go (fun W hW => ?_)
  have s1 : w.heap.size < W.heap.size := by rw [hW]; simp only [World.size_alloc]; omega
  have b1 : ∀ i, W.cell? ⟨w.heap.size, i, none⟩ = (#[.int .i64 N, .int .i64 N, .slice aA T.length cA] : Array Value)[i]? := by intro i; rw [hW]; go_simp
  have g0 : Grew w W := by rw [hW]; exact (Grew.refl _).alloc _
  clear hW
  have hAW : FS W (.slice aA T.length cA) T := hA.grew g0
  have hXW : FS W (.slice aX l.length cX) l := hX.grew g0
  go_wp2_with (at_builtin; refine appendN_f finfo (Grew.refl W |>.alloc _) (OwnF.empty rfl (Nat.le_refl _)) (FS.alloc hXW _) (by simp; omega) _ _ rfl rfl rfl rfl ?_; intro v oo nn ho hn; obtain ⟨g, cap, rfl, hg, hF, hL⟩ := ho.ws (hn notnil) (by simp; omega); simp only [List.nil_append] at hF hL)
  refine name_any (fun V hV => ?_)
  have gV : Grew W V := by rw [← hV]; (show Grew _ _; repeat (first | (with_reducible exact Grew.refl _) | (with_reducible assumption) | (with_reducible refine Grew.ext ?_ _ _) | (with_reducible refine Grew.alloc ?_ _) | ((with_reducible refine Grew.setCell ?_ ?_ _); rotate_left; (focus (dsimp only; first | omega | (simp only [size_ext, World.size_alloc, Array.size_append]; omega)))) | (with_reducible refine Grew.drewN ?_ _) | (with_reducible refine Grew.drew ?_)))
  have sV := gV.below.size
  have hFV : FW V g l := by rw [← hV]; (repeat (first | (with_reducible assumption) | ((with_reducible refine FW.ext_set ?_ ?_ ?_ _); rotate_left; (focus (simp only [size_setCell', World.size_alloc, size_ext, size_upd]; omega)); (focus (dsimp only; omega))) | ((with_reducible refine FW.setCell_ne ?_ ?_ _); rotate_left; (focus (dsimp only; omega))) | (with_reducible refine FW.ext ?_ _ _) | (with_reducible refine FW.alloc ?_ _)))
  have hG : ∀ k ∈ [g], W.heap.size ≤ k := by intro k hk; simp at hk; omega
  have hDu := But.fs gV hAW hG
  have cU := But.boxW gV s1 b1 hG
  have bw : ∀ w', But V [g] w' → Grew w w' := fun w' h => g0.trans (h.grew0 gV hG)
  have kV : w.heap.size < V.heap.size := by omega
  clear hV b1 hA hX hAW hXW ho
  go_loopw [10] (fun c wr => ∃ i : Nat, i ≤ N ∧ c = .int .i64 i ∧ But V [g] wr ∧ FW wr g l ∧ zeroF 2 M i = false) (fun c _ => N - (intOf c).toNat)
  case atStart => exact ⟨0, Nat.zero_le _, rfl, But.refl _ _, hFV, by simp [zeroF]⟩
  case round =>
    obtain ⟨i, hi, rfl, hB0, hL0, hz0⟩ := hrel
    have Hz := hid hz0
    clear hz0
    have tT0 := cU _ hB0
    have zB := hB0.size
    have kT0 : w.heap.size < wr.heap.size := by omega
    by_cases hlt : (i : Int) < N
    · have hlt' := hid hlt
      have hcA := fun w' (h : FS w' (.slice aA T.length cA) T) => hat i i (by omega) (by omega) w' h
      have hDr := hDu _ hB0
      cases hz : feq0 (M i i)
      · have H1 := hid (show zeroF 2 M (i + 1) = false by rw [hS.out, Hz.out, hz]; rfl)
        go_wp2_with (first | (go_at_call 72; ((with_reducible refine (hcA _ ?_).mono ?_); (focus (first | assumption | (refine FS.ext ?_ _ _; assumption) | (refine IS.ext ?_ _ _; assumption) | (refine hDu _ ?_; assumption) | (refine hOu _ ?_; assumption) | (refine FW.fs ?_ (by omega) _; assumption) | (refine WS.fs ?_; assumption) | omega)); rintro e w1 ⟨b, rfl, hf, hw1⟩; (have hz' : (FloatKind.f64.format.order b 0 == some Ordering.eq) = false := by rw [← hz]; unfold feq0; rw [← hf.order isF_zero]; rfl))))
        go_roundw
        case rel => exact ⟨i + 1, by have := hlt'.out; omega, by go_num, hB0.grew hw1, hL0.grew hw1, H1.out⟩
        case measure => (have := hlt'.out; simp [intOf]; omega)
      · have q := hid (show zeroF 2 M N = true from zeroF_mono (m := i + 1) (by rw [hS.out, Hz.out, hz]; rfl) (by omega))
        go_wp2_with (first | (go_at_call 72; ((with_reducible refine (hcA _ ?_).mono ?_); (focus (first | assumption | (refine FS.ext ?_ _ _; assumption) | (refine IS.ext ?_ _ _; assumption) | (refine hDu _ ?_; assumption) | (refine hOu _ ?_; assumption) | (refine FW.fs ?_ (by omega) _; assumption) | (refine WS.fs ?_; assumption) | omega)); rintro e w1 ⟨b, rfl, hf, hw1⟩; (have hz' : (FloatKind.f64.format.order b 0 == some Ordering.eq) = true := by rw [← hz]; unfold feq0; rw [← hf.order isF_zero]; rfl))))
        refine bodyPost_ret (v := .tuple #[.slice (some ⟨g, 0, none⟩) l.length cap, .bool false]) (by simp [results, Try.results80, go_sem, *]) rfl ?_
        refine ⟨_, by rw [q.out]; rfl, l, (hL0.grew hw1).fs (by omega) cap, fun h => ?_, bw _ (hB0.grew hw1)⟩
        rw [q.out] at h; cases h
    · have e : i = N := by omega
      have qz := hid (show zeroF 2 M N = false by rw [← e]; exact Hz.out)
      clear hlt
      have r0 : IntKind.i64.wrap ((N : Int) - 1) = (N : Int) - 1 := IntWalk.i64_in _ (by omega)
      go_wp2
      clear tT0 kT0 e
      go_loopw [13] (fun c wr => ∃ (p : Nat) (L : List Nat), p ≤ N ∧ c = .int .i64 ((N : Int) - 1 - p) ∧ But V [g] wr ∧ FW wr g L ∧ VH (vecL l) L (rowAll2 M N s0 p)) (fun c _ => (intOf c + 1).toNat)
      case atStart => exact ⟨0, l, Nat.zero_le _, (by first | (simp; done) | (simp; first | exact r0 | simpa using r0)), hB0, hL0, hV0⟩
      case round =>
        obtain ⟨q, L, hq, rfl, hB, hL, hS3⟩ := hrel
        by_cases hlt2 : 0 ≤ (N : Int) - 1 - q
        · obtain ⟨p, hi⟩ : ∃ i : Nat, (N : Int) - 1 - q = i := ⟨((N : Int) - 1 - q).toNat, by omega⟩
          have hi' := hid hi
          have hpN : p < N := by omega
          rw [hi] at hlt2
          simp only [hi]
          have hlt' := hid hlt2
          clear hi
          go_wp2
          go_loopw [14] (fun c wr => ∃ (t : Nat) (L : List Nat), t ≤ q ∧ c = .int .i64 ((N : Int) - 1 - t) ∧ But V [g] wr ∧ FW wr g L ∧ VH (vecL l) L (rowIn2 M N (rowAll2 M N s0 q) p t)) (fun c _ => (intOf c - p).toNat)
          case atStart => exact ⟨0, L, by omega, (by first | (simp; done) | (simp; first | exact r0 | simpa using r0)), hB, hL, hS3⟩
          case round =>
            obtain ⟨t, L2, ht, rfl, hB2, hL2, hS2⟩ := hrel
            obtain ⟨j, hj⟩ : ∃ j : Nat, (N : Int) - 1 - t = j := ⟨((N : Int) - 1 - t).toNat, by have := hi'.out; omega⟩
            have hj' := hid hj
            simp only [hj]
            by_cases hl2 : (p : Int) < j
            · have hjN : j < N := by omega
              have ej := hid (show N - 1 - t = j by omega)
              clear hj
              have hcA : ∀ w', Grew wr w' → Calls Try.prog 72 #[.agg #[.int .i64 N, .int .i64 N, .slice aA T.length cA], .int .i64 p, .int .i64 j] w' (fun e w2 => ∃ b, e = .returned (.float .f64 b) ∧ IsF b (M p j) ∧ ∃ o' n', w2 = ext w' o' n') := fun w' gw => hat p j hpN hjN _ (hDu _ (hB2.grew gw))
              have tT2 := cU _ hB2
              have zB2 := hB2.size
              have kT2 : w.heap.size < wr.heap.size := by omega
              obtain ⟨r0, hr0, hf0⟩ := hL2.get (i := p) (by have := hS2.len; have e : (vecL l).ws.length = l.length := rfl; have := Hn.out; omega)
              obtain ⟨y0, hy0, hg0⟩ := hL2.get (i := j) (by have := hS2.len; have e : (vecL l).ws.length = l.length := rfl; have := Hn.out; omega)
              have gl := hL2.lt
              have fz : ∀ i, wr.frozen? ⟨g, i, none⟩ = false := hL2.notFrozen
              have lp : (p : Int) < l.length := by have := Hn.out; omega
              have lt : ((j : Nat) : Int) < l.length := by have := Hn.out; omega
              go_wp2
              refine wp_region_R (Grew wr) [16] [(3,0), (3,1), (3,2), (3,3), (3,4), (0,5), (0,6), (3,7), (3,8), (3,10), (3,11), (3,12), (0,13), (1,9), (1,14), (3,15), (2,16)] (by kernel_rfl) (by kernel_rfl) (fun _ _ _ _ h _ => h) (by first | exact ⟨_, _, ext_drew⟩ | exact ⟨_, _, drew_ext0⟩) ?_
              go_wp2_with (first | ((with_reducible refine wpR_id ?_); first | (refine wpR_take (v := ?_) rfl rfl ?_ ?_; rotate_left; (focus (rintro w' ⟨o', n', rfl⟩; go_simp; try with_reducible rfl)); simp only [Act.put, List.setIfInBounds_toArray, List.set_cons_zero, List.set_cons_succ]) | (refine wpR_pure (v := ?_) rfl rfl ?_ ?_; rotate_left; (focus (intro w'; go_simp; try with_reducible rfl)); simp only [Act.put, List.setIfInBounds_toArray, List.set_cons_zero, List.set_cons_succ]) | (refine wpR_takeG (v := ?_) rfl rfl rfl rfl rfl ?_ ?_; rotate_left; (focus (rintro w' ⟨o', n', rfl⟩; go_simp; try with_reducible rfl)); simp only [Act.put, List.setIfInBounds_toArray, List.set_cons_zero, List.set_cons_succ]) | (refine wpR_skip rfl rfl rfl rfl rfl rfl ?_; simp only [Act.put, List.setIfInBounds_toArray, List.set_cons_zero, List.set_cons_succ]) | (refine wpR_skipU rfl rfl rfl rfl rfl ?_; simp only [Act.put, List.setIfInBounds_toArray, List.set_cons_zero, List.set_cons_succ]) | (refine wpR_do rfl rfl (fun K hK => ?_)) | (refine wpR_doG rfl rfl rfl rfl rfl (fun K hK => ?_)) | (refine wpR_last rfl rfl (fun K hK => ?_)) | (refine wpR_nil ?_)) | ((with_reducible refine wpR_go ?_ ?_); (focus exact ⟨_, _, rfl⟩)) | ((with_reducible refine upon_id ?_); refine upon_fop rfl (by assumption) (by assumption) ?_; intro rr nn hr) | (go_at_call 72; ((with_reducible refine (hcA _ (by (show Grew _ _; repeat (first | (with_reducible exact Grew.refl _) | (with_reducible assumption) | (with_reducible refine Grew.ext ?_ _ _) | (with_reducible refine Grew.alloc ?_ _) | ((with_reducible refine Grew.setCell ?_ ?_ _); rotate_left; (focus (dsimp only; first | omega | (simp only [size_ext, World.size_alloc, Array.size_append]; omega)))) | (with_reducible refine Grew.drewN ?_ _) | (with_reducible refine Grew.drew ?_))))).mono ?_); rintro e w1 ⟨r, rfl, hr, o1, n1, rfl⟩)) | (go_at_call 157; ((with_reducible refine (rsub_any r0 r y0 _ _ _ _ hf0 hr hg0).mono ?_); rintro e w1 ⟨r2, rfl, hr2, o2, n2, rfl⟩)))
              go_roundw
              case rel => exact ⟨t + 1, _, by (have := hj'.out; have := hi'.out; omega), by (have := hj'.out; go_num), (hB2.setc hL2 (by simp)).grew ⟨_, _, rfl⟩, (hL2.setc (k := p) hr2).ext _ _, by have := hS2.less' (i := p) (k := j) (a := M p j) (by have := Hn.out; omega) (by have := Hn.out; omega); unfold rowIn2; rw [ej.out]; exact this⟩
              case measure => (have := hj'.out; simp [intOf] <;> omega)
            · have e : t = q := by have := hi'.out; omega
              subst e
              have tT2 := cU _ hB2
              have zB2 := hB2.size
              have kT2 : w.heap.size < wr.heap.size := by omega
              obtain ⟨r0, hr0, hf0⟩ := hL2.get (i := p) (by have := hS2.len; have e : (vecL l).ws.length = l.length := rfl; have := Hn.out; omega)
              obtain ⟨y0, hy0, hg0⟩ := hL2.get (i := p) (by have := hS2.len; have e : (vecL l).ws.length = l.length := rfl; have := Hn.out; omega)
              have gl := hL2.lt
              have fz : ∀ i, wr.frozen? ⟨g, i, none⟩ = false := hL2.notFrozen
              have lp : (p : Int) < l.length := by have := Hn.out; omega
              have lt : ((p : Nat) : Int) < l.length := by have := Hn.out; omega
              have hcA : ∀ w', Grew wr w' → Calls Try.prog 72 #[.agg #[.int .i64 N, .int .i64 N, .slice aA T.length cA], .int .i64 p, .int .i64 p] w' (fun e w2 => ∃ b, e = .returned (.float .f64 b) ∧ IsF b (M p p) ∧ ∃ o' n', w2 = ext w' o' n') := fun w' gw => hat p p hpN hpN _ (hDu _ (hB2.grew gw))
              clear hj
              go_wp2
              refine wp_region_R (Grew wr) [12] [(3,0), (3,1), (3,2), (3,3), (3,4), (0,5), (0,6), (3,7), (3,8), (1,9), (1,10), (3,11), (2,12)] (by kernel_rfl) (by kernel_rfl) (fun _ _ _ _ h _ => h) (by first | exact ⟨_, _, ext_drew⟩ | exact ⟨_, _, drew_ext0⟩) ?_
              go_wp2_with (first | ((with_reducible refine wpR_id ?_); first | (refine wpR_take (v := ?_) rfl rfl ?_ ?_; rotate_left; (focus (rintro w' ⟨o', n', rfl⟩; go_simp; try with_reducible rfl)); simp only [Act.put, List.setIfInBounds_toArray, List.set_cons_zero, List.set_cons_succ]) | (refine wpR_pure (v := ?_) rfl rfl ?_ ?_; rotate_left; (focus (intro w'; go_simp; try with_reducible rfl)); simp only [Act.put, List.setIfInBounds_toArray, List.set_cons_zero, List.set_cons_succ]) | (refine wpR_takeG (v := ?_) rfl rfl rfl rfl rfl ?_ ?_; rotate_left; (focus (rintro w' ⟨o', n', rfl⟩; go_simp; try with_reducible rfl)); simp only [Act.put, List.setIfInBounds_toArray, List.set_cons_zero, List.set_cons_succ]) | (refine wpR_skip rfl rfl rfl rfl rfl rfl ?_; simp only [Act.put, List.setIfInBounds_toArray, List.set_cons_zero, List.set_cons_succ]) | (refine wpR_skipU rfl rfl rfl rfl rfl ?_; simp only [Act.put, List.setIfInBounds_toArray, List.set_cons_zero, List.set_cons_succ]) | (refine wpR_do rfl rfl (fun K hK => ?_)) | (refine wpR_doG rfl rfl rfl rfl rfl (fun K hK => ?_)) | (refine wpR_last rfl rfl (fun K hK => ?_)) | (refine wpR_nil ?_)) | ((with_reducible refine wpR_go ?_ ?_); (focus exact ⟨_, _, rfl⟩)) | ((with_reducible refine upon_id ?_); refine upon_fop rfl (by assumption) (by assumption) ?_; intro rr nn hr) | (go_at_call 72; ((with_reducible refine (hcA _ (by (show Grew _ _; repeat (first | (with_reducible exact Grew.refl _) | (with_reducible assumption) | (with_reducible refine Grew.ext ?_ _ _) | (with_reducible refine Grew.alloc ?_ _) | ((with_reducible refine Grew.setCell ?_ ?_ _); rotate_left; (focus (dsimp only; first | omega | (simp only [size_ext, World.size_alloc, Array.size_append]; omega)))) | (with_reducible refine Grew.drewN ?_ _) | (with_reducible refine Grew.drew ?_))))).mono ?_); rintro e w1 ⟨r, rfl, hr, o1, n1, rfl⟩)) | (go_at_call 158; ((with_reducible refine (over_any r0 r _ _ _ hf0 hr).mono ?_); rintro e w1 ⟨r2, rfl, hr2, o2, n2, rfl⟩)))
              go_roundw
              case rel => exact ⟨t + 1, _, by (have := hi'.out; omega), by (have := hi'.out; go_num), (hB2.setc hL2 (by simp)).grew ⟨_, _, rfl⟩, (hL2.setc (k := p) hr2).ext _ _, by have := hS2.div' (i := p) (a := M p p) (by have := Hn.out; omega); unfold rowAll2; rw [show N - 1 - t = p by have := hi'.out; omega]; exact this⟩
              case measure => (have := hi'.out; simp [intOf] <;> omega)
        · have e : q = N := by omega
          go_wp2
          refine bodyPost_ret (v := .tuple #[.slice (some ⟨g, 0, none⟩) l.length cap, .bool true]) (by simp [results, Try.results80, go_sem, *]) rfl ?_
          refine ⟨_, by rw [qz.out]; rfl, L, ?_, fun _ => ?_, bw _ hB⟩
          · have := hL.fs (by have := hS3.len; have e : (vecL l).ws.length = l.length := rfl; omega) cap; rw [hS3.len] at this; exact this
          · rw [← Hn.out]; exact hS3.list' (fun r hr => by subst e; unfold solveF; rw [if_neg (by decide), if_pos rfl]; rw [Hn.out])
set_option maxRecDepth 100000 in
set_option maxHeartbeats 2000000 in
theorem rsolve_4 (N : Nat) (T l : List Nat) (M : Nat → Nat → Nat) (A X : Value) (w : World) (hA : FS w A T) (hX : FS w X l) (hn : l.length = N) (hT : T.length = N * N) (hM : ∀ i j, i < N → j < N → T.getD (i * N + j) 0 = M i j) (s0 : Nat → Nat) (hs0 : ∀ r, r < N → l.getD r 0 = s0 r) (hN : N ≤ 1000) :
   Calls Try.prog 80 #[.int .i64 4, .agg #[.int .i64 N, .int .i64 N, A], X] w (fun e w' => ∃ v L, e = .returned (.tuple #[v, .bool (!zeroF 4 M N)]) ∧ FS w' v L ∧ (zeroF 4 M N = false → L = (List.range N).map (solveF M N 4 s0)) ∧ ∃ o n, w' = ext w o n) := by
  obtain ⟨aA, cA, rfl⟩ := hA.shape
  have HT := hid hT
  have Hn := hid hn
  have hlX : l.length ≤ 1000 := by omega
  obtain ⟨aX, cX, rfl⟩ := hX.shape
  have hat : ∀ i j : Nat, i < N → j < N → ∀ w', FS w' (.slice aA T.length cA) T → Calls Try.prog 72 #[.agg #[.int .i64 N, .int .i64 N, .slice aA T.length cA], .int .i64 i, .int .i64 j] w' (fun e w2 => ∃ b, e = .returned (.float .f64 b) ∧ IsF b (M i j) ∧ ∃ o n, w2 = ext w' o n) := fun i j hi hj w' h => by
    have := rat_any N N i j (.slice aA T.length cA) T w' h hN hN (by omega) (by omega) (by rw [hT]; exact at_lt hi hj)
    rw [hM i j hi hj] at this; exact this
  have hS := hid (fun n => zeroF_succ 4 M n)
  have hV0 : VH (vecL l) l s0 := VH.start' l s0 (by rw [hn]; exact hs0)
  clear hT hn hM hs0
  go_enter Try.func80, Try.ntmps80
  refine seq_stop ?_
  go_wp2
  refine stop_go (fun W hW => ?_)
  have s1 : w.heap.size < W.heap.size := by rw [hW]; simp only [World.size_alloc]; omega
  have b1 : ∀ i, W.cell? ⟨w.heap.size, i, none⟩ = (#[.int .i64 N, .int .i64 N, .slice aA T.length cA] : Array Value)[i]? := by intro i; rw [hW]; go_simp
  have g0 : Grew w W := by rw [hW]; exact (Grew.refl _).alloc _
  clear hW
  have hAW : FS W (.slice aA T.length cA) T := hA.grew g0
  have hXW : FS W (.slice aX l.length cX) l := hX.grew g0
  go_wp2_with (at_builtin; refine appendN_f finfo (Grew.refl W |>.alloc _) (OwnF.empty rfl (Nat.le_refl _)) (FS.alloc hXW _) (by simp; omega) _ _ rfl rfl rfl rfl ?_; intro v oo nn ho hn; obtain ⟨g, cap, rfl, hg, hF, hL⟩ := ho.ws (hn notnil) (by simp; omega); simp only [List.nil_append] at hF hL)
  refine name_any (fun V hV => ?_)
  have gV : Grew W V := by rw [← hV]; (show Grew _ _; repeat (first | (with_reducible exact Grew.refl _) | (with_reducible assumption) | (with_reducible refine Grew.ext ?_ _ _) | (with_reducible refine Grew.alloc ?_ _) | ((with_reducible refine Grew.setCell ?_ ?_ _); rotate_left; (focus (dsimp only; first | omega | (simp only [size_ext, World.size_alloc, Array.size_append]; omega)))) | (with_reducible refine Grew.drewN ?_ _) | (with_reducible refine Grew.drew ?_)))
  have sV := gV.below.size
  have hFV : FW V g l := by rw [← hV]; (repeat (first | (with_reducible assumption) | ((with_reducible refine FW.ext_set ?_ ?_ ?_ _); rotate_left; (focus (simp only [size_setCell', World.size_alloc, size_ext, size_upd]; omega)); (focus (dsimp only; omega))) | ((with_reducible refine FW.setCell_ne ?_ ?_ _); rotate_left; (focus (dsimp only; omega))) | (with_reducible refine FW.ext ?_ _ _) | (with_reducible refine FW.alloc ?_ _)))
  have hG : ∀ k ∈ [g], W.heap.size ≤ k := by intro k hk; simp at hk; omega
  have hDu := But.fs gV hAW hG
  have cU := But.boxW gV s1 b1 hG
  have bw : ∀ w', But V [g] w' → Grew w w' := fun w' h => g0.trans (h.grew0 gV hG)
  have kV : w.heap.size < V.heap.size := by omega
  clear hV b1 hA hX hAW hXW ho
  go_loopw [10] (fun c wr => ∃ i : Nat, i ≤ N ∧ c = .int .i64 i ∧ But V [g] wr ∧ FW wr g l ∧ zeroF 4 M i = false) (fun c _ => N - (intOf c).toNat)
  case atStart => exact ⟨0, Nat.zero_le _, rfl, But.refl _ _, hFV, by simp [zeroF]⟩
  case round =>
    obtain ⟨i, hi, rfl, hB0, hL0, hz0⟩ := hrel
    have Hz := hid hz0
    clear hz0
    have tT0 := cU _ hB0
    have zB := hB0.size
    have kT0 : w.heap.size < wr.heap.size := by omega
    by_cases hlt : (i : Int) < N
    · have hlt' := hid hlt
      have hcA := fun w' (h : FS w' (.slice aA T.length cA) T) => hat i i (by omega) (by omega) w' h
      have hDr := hDu _ hB0
      cases hz : feq0 (M i i)
      · have H1 := hid (show zeroF 4 M (i + 1) = false by rw [hS.out, Hz.out, hz]; rfl)
        go_wp2_with (first | (go_at_call 72; ((with_reducible refine (hcA _ ?_).mono ?_); (focus (first | assumption | (refine FS.ext ?_ _ _; assumption) | (refine IS.ext ?_ _ _; assumption) | (refine hDu _ ?_; assumption) | (refine hOu _ ?_; assumption) | (refine FW.fs ?_ (by omega) _; assumption) | (refine WS.fs ?_; assumption) | omega)); rintro e w1 ⟨b, rfl, hf, hw1⟩; (have hz' : (FloatKind.f64.format.order b 0 == some Ordering.eq) = false := by rw [← hz]; unfold feq0; rw [← hf.order isF_zero]; rfl))))
        go_roundw
        case rel => exact ⟨i + 1, by have := hlt'.out; omega, by go_num, hB0.grew hw1, hL0.grew hw1, H1.out⟩
        case measure => (have := hlt'.out; simp [intOf]; omega)
      · have q := hid (show zeroF 4 M N = true from zeroF_mono (m := i + 1) (by rw [hS.out, Hz.out, hz]; rfl) (by omega))
        go_wp2_with (first | (go_at_call 72; ((with_reducible refine (hcA _ ?_).mono ?_); (focus (first | assumption | (refine FS.ext ?_ _ _; assumption) | (refine IS.ext ?_ _ _; assumption) | (refine hDu _ ?_; assumption) | (refine hOu _ ?_; assumption) | (refine FW.fs ?_ (by omega) _; assumption) | (refine WS.fs ?_; assumption) | omega)); rintro e w1 ⟨b, rfl, hf, hw1⟩; (have hz' : (FloatKind.f64.format.order b 0 == some Ordering.eq) = true := by rw [← hz]; unfold feq0; rw [← hf.order isF_zero]; rfl))))
        refine bodyPost_ret (v := .tuple #[.slice (some ⟨g, 0, none⟩) l.length cap, .bool false]) (by simp [results, Try.results80, go_sem, *]) rfl ?_
        refine ⟨_, by rw [q.out]; rfl, l, (hL0.grew hw1).fs (by omega) cap, fun h => ?_, bw _ (hB0.grew hw1)⟩
        rw [q.out] at h; cases h
    · have e : i = N := by omega
      have qz := hid (show zeroF 4 M N = false by rw [← e]; exact Hz.out)
      clear hlt
      go_wp2
      clear tT0 kT0 e
      go_loopw [17] (fun c wr => ∃ (p : Nat) (L : List Nat), p ≤ N ∧ c = .int .i64 p ∧ But V [g] wr ∧ FW wr g L ∧ VH (vecL l) L (rowAll4 M s0 p)) (fun c _ => N - (intOf c).toNat)
      case atStart => exact ⟨0, l, Nat.zero_le _, rfl, hB0, hL0, hV0⟩
      case round =>
        obtain ⟨p, L, hp, rfl, hB, hL, hS3⟩ := hrel
        by_cases hlt2 : (p : Int) < N
        · have hpN : p < N := by omega
          have hlt' := hid hlt2
          go_wp2
          go_loopw [18] (fun c wr => ∃ (t : Nat) (L : List Nat), t ≤ p ∧ c = .int .i64 t ∧ But V [g] wr ∧ FW wr g L ∧ VH (vecL l) L (rowIn4 M (rowAll4 M s0 p) p t)) (fun c _ => p - (intOf c).toNat)
          case atStart => exact ⟨0, L, Nat.zero_le _, rfl, hB, hL, hS3⟩
          case round =>
            obtain ⟨t, L2, ht, rfl, hB2, hL2, hS2⟩ := hrel
            by_cases hl2 : (t : Int) < p
            · have hcA : ∀ w', Grew wr w' → Calls Try.prog 72 #[.agg #[.int .i64 N, .int .i64 N, .slice aA T.length cA], .int .i64 t, .int .i64 p] w' (fun e w2 => ∃ b, e = .returned (.float .f64 b) ∧ IsF b (M t p) ∧ ∃ o' n', w2 = ext w' o' n') := fun w' gw => hat t p (by omega) hpN _ (hDu _ (hB2.grew gw))
              have tT2 := cU _ hB2
              have zB2 := hB2.size
              have kT2 : w.heap.size < wr.heap.size := by omega
              obtain ⟨r0, hr0, hf0⟩ := hL2.get (i := p) (by have := hS2.len; have e : (vecL l).ws.length = l.length := rfl; have := Hn.out; omega)
              obtain ⟨y0, hy0, hg0⟩ := hL2.get (i := t) (by have := hS2.len; have e : (vecL l).ws.length = l.length := rfl; have := Hn.out; omega)
              have gl := hL2.lt
              have fz : ∀ i, wr.frozen? ⟨g, i, none⟩ = false := hL2.notFrozen
              have lp : (p : Int) < l.length := by have := Hn.out; omega
              have lt : ((t : Nat) : Int) < l.length := by have := Hn.out; omega
              go_wp2
              refine wp_region_R (Grew wr) [16] [(3,0), (3,1), (3,2), (3,3), (3,4), (0,5), (0,6), (3,7), (3,8), (3,10), (3,11), (3,12), (0,13), (1,9), (1,14), (3,15), (2,16)] (by kernel_rfl) (by kernel_rfl) (fun _ _ _ _ h _ => h) (by first | exact ⟨_, _, ext_drew⟩ | exact ⟨_, _, drew_ext0⟩) ?_
              go_wp2_with (first | ((with_reducible refine wpR_id ?_); first | (refine wpR_take (v := ?_) rfl rfl ?_ ?_; rotate_left; (focus (rintro w' ⟨o', n', rfl⟩; go_simp; try with_reducible rfl)); simp only [Act.put, List.setIfInBounds_toArray, List.set_cons_zero, List.set_cons_succ]) | (refine wpR_pure (v := ?_) rfl rfl ?_ ?_; rotate_left; (focus (intro w'; go_simp; try with_reducible rfl)); simp only [Act.put, List.setIfInBounds_toArray, List.set_cons_zero, List.set_cons_succ]) | (refine wpR_takeG (v := ?_) rfl rfl rfl rfl rfl ?_ ?_; rotate_left; (focus (rintro w' ⟨o', n', rfl⟩; go_simp; try with_reducible rfl)); simp only [Act.put, List.setIfInBounds_toArray, List.set_cons_zero, List.set_cons_succ]) | (refine wpR_skip rfl rfl rfl rfl rfl rfl ?_; simp only [Act.put, List.setIfInBounds_toArray, List.set_cons_zero, List.set_cons_succ]) | (refine wpR_skipU rfl rfl rfl rfl rfl ?_; simp only [Act.put, List.setIfInBounds_toArray, List.set_cons_zero, List.set_cons_succ]) | (refine wpR_do rfl rfl (fun K hK => ?_)) | (refine wpR_doG rfl rfl rfl rfl rfl (fun K hK => ?_)) | (refine wpR_last rfl rfl (fun K hK => ?_)) | (refine wpR_nil ?_)) | ((with_reducible refine wpR_go ?_ ?_); (focus exact ⟨_, _, rfl⟩)) | ((with_reducible refine upon_id ?_); refine upon_fop rfl (by assumption) (by assumption) ?_; intro rr nn hr) | (go_at_call 72; ((with_reducible refine (hcA _ (by (show Grew _ _; repeat (first | (with_reducible exact Grew.refl _) | (with_reducible assumption) | (with_reducible refine Grew.ext ?_ _ _) | (with_reducible refine Grew.alloc ?_ _) | ((with_reducible refine Grew.setCell ?_ ?_ _); rotate_left; (focus (dsimp only; first | omega | (simp only [size_ext, World.size_alloc, Array.size_append]; omega)))) | (with_reducible refine Grew.drewN ?_ _) | (with_reducible refine Grew.drew ?_))))).mono ?_); rintro e w1 ⟨r, rfl, hr, o1, n1, rfl⟩)) | (go_at_call 157; ((with_reducible refine (rsub_any r0 r y0 _ _ _ _ hf0 hr hg0).mono ?_); rintro e w1 ⟨r2, rfl, hr2, o2, n2, rfl⟩)))
              go_roundw
              case rel => exact ⟨t + 1, _, by omega, by go_num, (hB2.setc hL2 (by simp)).grew ⟨_, _, rfl⟩, (hL2.setc (k := p) hr2).ext _ _, hS2.less' (by have := Hn.out; omega) (by have := Hn.out; omega)⟩
              case measure => simp [intOf]; omega
            · have e : t = p := by omega
              subst e
              have hcA : ∀ w', Grew wr w' → Calls Try.prog 72 #[.agg #[.int .i64 N, .int .i64 N, .slice aA T.length cA], .int .i64 t, .int .i64 t] w' (fun e w2 => ∃ b, e = .returned (.float .f64 b) ∧ IsF b (M t t) ∧ ∃ o' n', w2 = ext w' o' n') := fun w' gw => hat t t hpN hpN _ (hDu _ (hB2.grew gw))
              have tT2 := cU _ hB2
              have zB2 := hB2.size
              have kT2 : w.heap.size < wr.heap.size := by omega
              obtain ⟨r0, hr0, hf0⟩ := hL2.get (i := t) (by have := hS2.len; have e : (vecL l).ws.length = l.length := rfl; have := Hn.out; omega)
              have gl := hL2.lt
              have fz : ∀ i, wr.frozen? ⟨g, i, none⟩ = false := hL2.notFrozen
              have lp : (t : Int) < l.length := by have := Hn.out; omega
              go_wp2
              refine wp_region_R (Grew wr) [12] [(3,0), (3,1), (3,2), (3,3), (3,4), (0,5), (0,6), (3,7), (3,8), (1,9), (1,10), (3,11), (2,12)] (by kernel_rfl) (by kernel_rfl) (fun _ _ _ _ h _ => h) (by first | exact ⟨_, _, ext_drew⟩ | exact ⟨_, _, drew_ext0⟩) ?_
              go_wp2_with (first | ((with_reducible refine wpR_id ?_); first | (refine wpR_take (v := ?_) rfl rfl ?_ ?_; rotate_left; (focus (rintro w' ⟨o', n', rfl⟩; go_simp; try with_reducible rfl)); simp only [Act.put, List.setIfInBounds_toArray, List.set_cons_zero, List.set_cons_succ]) | (refine wpR_pure (v := ?_) rfl rfl ?_ ?_; rotate_left; (focus (intro w'; go_simp; try with_reducible rfl)); simp only [Act.put, List.setIfInBounds_toArray, List.set_cons_zero, List.set_cons_succ]) | (refine wpR_takeG (v := ?_) rfl rfl rfl rfl rfl ?_ ?_; rotate_left; (focus (rintro w' ⟨o', n', rfl⟩; go_simp; try with_reducible rfl)); simp only [Act.put, List.setIfInBounds_toArray, List.set_cons_zero, List.set_cons_succ]) | (refine wpR_skip rfl rfl rfl rfl rfl rfl ?_; simp only [Act.put, List.setIfInBounds_toArray, List.set_cons_zero, List.set_cons_succ]) | (refine wpR_skipU rfl rfl rfl rfl rfl ?_; simp only [Act.put, List.setIfInBounds_toArray, List.set_cons_zero, List.set_cons_succ]) | (refine wpR_do rfl rfl (fun K hK => ?_)) | (refine wpR_doG rfl rfl rfl rfl rfl (fun K hK => ?_)) | (refine wpR_last rfl rfl (fun K hK => ?_)) | (refine wpR_nil ?_)) | ((with_reducible refine wpR_go ?_ ?_); (focus exact ⟨_, _, rfl⟩)) | ((with_reducible refine upon_id ?_); refine upon_fop rfl (by assumption) (by assumption) ?_; intro rr nn hr) | (go_at_call 72; ((with_reducible refine (hcA _ (by (show Grew _ _; repeat (first | (with_reducible exact Grew.refl _) | (with_reducible assumption) | (with_reducible refine Grew.ext ?_ _ _) | (with_reducible refine Grew.alloc ?_ _) | ((with_reducible refine Grew.setCell ?_ ?_ _); rotate_left; (focus (dsimp only; first | omega | (simp only [size_ext, World.size_alloc, Array.size_append]; omega)))) | (with_reducible refine Grew.drewN ?_ _) | (with_reducible refine Grew.drew ?_))))).mono ?_); rintro e w1 ⟨r, rfl, hr, o1, n1, rfl⟩)) | (go_at_call 158; ((with_reducible refine (over_any r0 r _ _ _ hf0 hr).mono ?_); rintro e w1 ⟨r2, rfl, hr2, o2, n2, rfl⟩)))
              go_roundw
              case rel => exact ⟨t + 1, _, by omega, by go_num, (hB2.setc hL2 (by simp)).grew ⟨_, _, rfl⟩, (hL2.setc (k := t) hr2).ext _ _, hS2.div' (by have := Hn.out; omega)⟩
              case measure => (have := hlt'.out; simp [intOf] <;> omega)
        · have e : p = N := by omega
          go_wp2
          refine bodyPost_ret (v := .tuple #[.slice (some ⟨g, 0, none⟩) l.length cap, .bool true]) (by simp [results, Try.results80, go_sem, *]) rfl ?_
          refine ⟨_, by rw [qz.out]; rfl, L, ?_, fun _ => ?_, bw _ hB⟩
          · have := hL.fs (by have := hS3.len; have e : (vecL l).ws.length = l.length := rfl; omega) cap; rw [hS3.len] at this; exact this
          · rw [← Hn.out]; exact hS3.list' (fun r hr => by subst e; unfold solveF; rw [if_neg (by decide), if_neg (by decide), if_neg (by decide)]; rw [Hn.out])
/-- straightedgeref09.Solve, of a square matrix. -/
theorem rsolve_any (k : Int) (N : Nat) (T l : List Nat) (M : Nat → Nat → Nat) (A X : Value) (w : World) (hA : FS w A T) (hX : FS w X l) (hn : l.length = N) (hT : T.length = N * N) (hM : ∀ i j, i < N → j < N → T.getD (i * N + j) 0 = M i j) (s0 : Nat → Nat) (hs0 : ∀ r, r < N → l.getD r 0 = s0 r) (hN : N ≤ 1000) (k1 : 1 ≤ k) (k4 : k ≤ 4) :
   Calls Try.prog 80 #[.int .i64 k, .agg #[.int .i64 N, .int .i64 N, A], X] w (fun e w' => ∃ v L, e = .returned (.tuple #[v, .bool (!zeroF k M N)]) ∧ FS w' v L ∧ (zeroF k M N = false → L = (List.range N).map (solveF M N k s0)) ∧ ∃ o n, w' = ext w o n) := by
  obtain rfl | rfl | rfl | rfl : k = 1 ∨ k = 2 ∨ k = 3 ∨ k = 4 := by omega
  · refine (rsolve_1 N T l M A X w hA hX hn hT hM s0 hs0 hN).mono fun e w' h => ?_
    obtain ⟨v, L, rfl, h1, h2, h3⟩ := h
    exact ⟨v, L, by simp [zeroF], h1, fun _ => h2, h3⟩
  · exact rsolve_2 N T l M A X w hA hX hn hT hM s0 hs0 hN
  · refine (rsolve_3 N T l M A X w hA hX hn hT hM s0 hs0 hN).mono fun e w' h => ?_
    obtain ⟨v, L, rfl, h1, h2, h3⟩ := h
    exact ⟨v, L, by simp [zeroF], h1, fun _ => h2, h3⟩
  · exact rsolve_4 N T l M A X w hA hX hn hT hM s0 hs0 hN
end Go.Proofs.Ytcmggfpcbijcjaa
