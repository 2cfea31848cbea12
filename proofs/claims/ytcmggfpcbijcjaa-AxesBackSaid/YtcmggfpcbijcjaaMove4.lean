/-
  Contracts: the reference's rows that change places (layer 4); rows, one pair behind the other.
-/
import Derived.Test.YtcmggfpcbijcjaaMove
import Derived.Test.YtcmggfpcbijcjaaOpen
set_option linter.unusedSimpArgs false
set_option linter.unusedVariables false
open Go Go.RowKit Sedge
namespace Go.Proofs.Ytcmggfpcbijcjaa
def rrowsL (C : Nat) (l : List Nat) (i k : Nat) : List Nat := swaps l (fun t => i * C + t) (fun t => k * C + t) C
@[simp] theorem rrowsL_length (C : Nat) (l : List Nat) (i k : Nat) : (rrowsL C l i k).length = l.length := by unfold rrowsL; simp
set_option maxRecDepth 100000 in
set_option maxHeartbeats 2000000 in
/-- straightedgeref04.Rows. -/
theorem rrows_any (R C i k g cap : Nat) (ws : List Nat) (w : World) (hF : FW w g ws) (hlen : ws.length = R * C) (hR : R ≤ 1000) (hC : C ≤ 1000) (hi : i < R) (hk : k < R) :
   Calls Try.prog 49 #[.agg #[.int .i64 R, .int .i64 C, .slice (some ⟨g, 0, none⟩) (R * C) cap], .int .i64 i, .int .i64 k] w
     (fun e w' => e = .returned (.tuple #[]) ∧ Wrote w w' g (rrowsL C ws i k)) := by
  have hm : R * C ≤ 1000 * 1000 := Nat.mul_le_mul hR hC
  have Hm := hid hm
  have hltg := hF.lt
  clear hm
  go_enter Try.func49, Try.ntmps49
  refine seq_stop ?_
  go_wp2
  refine stop_go (fun W hW => ?_)
  have s1 : w.heap.size < W.heap.size := by rw [hW]; simp only [World.size_alloc]; omega
  have b1 : ∀ i, W.cell? ⟨w.heap.size, i, none⟩ = (#[.int .i64 R, .int .i64 C, .slice (some ⟨g, 0, none⟩) (R * C) cap] : Array Value)[i]? := by intro i; rw [hW]; go_simp
  have f1 : ∀ i, W.frozen? ⟨w.heap.size, i, none⟩ = false := by intro i; rw [hW]; go_simp
  have g0 : Grew w W := by rw [hW]; exact (Grew.refl _).alloc _
  clear hW
  have hFW := hF.grew g0
  have gl := hFW.lt
  have q1 : w.heap.size ≠ g := by omega
  go_wp2
  go_loopw [6] (fun c wr => ∃ (j : Nat) (cs : Array Value) (o : Array Obj) (n : Nat), j ≤ C ∧ c = .int .i64 j ∧ wr = ext (upd W g cs) o n ∧ CF cs (swaps ws (fun t => i * C + t) (fun t => k * C + t) j)) (fun c _ => C - (intOf c).toNat)
  case atStart =>
    obtain ⟨cs, h1, h2⟩ := hFW.self
    exact ⟨0, cs, #[], _, Nat.zero_le _, rfl, by rw [h1]; exact ext_zero.symm, h2⟩
  case round =>
    obtain ⟨j, cs, o2, n2, hj, rfl, hwr, hcs⟩ := hrel
    subst hwr
    by_cases hltj : j < C
    · have hat := at_lt hi hltj
      have hbt := at_lt hk hltj
      obtain ⟨S, hS⟩ : ∃ S, S = swaps ws (fun t => i * C + t) (fun t => k * C + t) j := ⟨_, rfl⟩
      rw [← hS] at hcs
      have hlS : S.length = R * C := by rw [hS]; simp [hlen]
      have HS := hid hS
      clear hS
      have hfw : ∀ o n, FW (ext (upd W g cs) o n) g S := fun o n => hFW.mk' hcs o n
      have hfs : ∀ o n, FS (ext (upd W g cs) o n) (.slice (some ⟨g, 0, none⟩) (R * C) cap) S := fun o n => by have h := (hfw o n).fs (by have := Hm.out; omega) cap; rw [hlS] at h; exact h
      go_wp2
      refine wp_region_R (Over W g) [] [(0,0), (0,1), (0,2), (0,4), (0,5), (0,6), (1,3), (1,7), (0,8), (0,9)] (by kernel_rfl) (by kernel_rfl) (fun _ _ _ _ h _ => h) ⟨_, _, _, ext_drew⟩ ?_
      go_wp2_with (first
        | ((with_reducible refine wpR_id ?_); first | (refine wpR_take (v := ?_) rfl rfl ?_ ?_; rotate_left; (focus (rintro w' ⟨cs', o', n', rfl⟩; go_simp; try with_reducible rfl)); simp only [Act.put, List.setIfInBounds_toArray, List.set_cons_zero, List.set_cons_succ]) | (refine wpR_pure (v := ?_) rfl rfl ?_ ?_; rotate_left; (focus (intro w'; go_simp; try with_reducible rfl)); simp only [Act.put, List.setIfInBounds_toArray, List.set_cons_zero, List.set_cons_succ]) | (refine wpR_takeG (v := ?_) rfl rfl rfl rfl rfl ?_ ?_; rotate_left; (focus (rintro w' ⟨cs', o', n', rfl⟩; go_simp; try with_reducible rfl)); simp only [Act.put, List.setIfInBounds_toArray, List.set_cons_zero, List.set_cons_succ]) | (refine wpR_skip rfl rfl rfl rfl rfl rfl ?_; simp only [Act.put, List.setIfInBounds_toArray, List.set_cons_zero, List.set_cons_succ]) | (refine wpR_skipU rfl rfl rfl rfl rfl ?_; simp only [Act.put, List.setIfInBounds_toArray, List.set_cons_zero, List.set_cons_succ]) | (refine wpR_do rfl rfl (fun K hK => ?_)) | (refine wpR_doG rfl rfl rfl rfl rfl (fun K hK => ?_)) | (refine wpR_last rfl rfl (fun K hK => ?_)) | (refine wpR_nil ?_)) | ((with_reducible refine wpR_go ?_ ?_); (focus exact ⟨_, _, _, rfl⟩)) | ((with_reducible refine upon_id ?_); refine upon_fop rfl (by assumption) (by assumption) ?_; intro rr nn hr)
        | (go_at_call 72; ((with_reducible refine (rat_any R C i j _ S _ (hfs _ _) hR hC ?_ ?_ ?_).mono ?_); (focus omega); (focus omega); (focus omega); rintro e w1 ⟨b, rfl, hb, o3, n3, rfl⟩))
        | (go_at_call 72; ((with_reducible refine (rat_any R C k j _ S _ (hfs _ _) hR hC ?_ ?_ ?_).mono ?_); (focus omega); (focus omega); (focus omega); rintro e w1 ⟨d, rfl, hd, o3, n3, rfl⟩)))
      go_wp2_with (go_at_call 134; ((with_reducible refine (rset_any R C i j g cap (R * C) d _ _ _ (hfw _ _) hd hlS.symm hR hC ?_ ?_ ?_).mono ?_); (focus omega); (focus omega); (focus omega); rintro e w1 ⟨rfl, hw⟩; obtain ⟨cs2, o4, n4, rfl, hcs2⟩ := Wrote.trans ⟨cs, _, _, rfl, hcs⟩ gl hw))
      go_wp2_with (go_at_call 134; ((with_reducible refine (rset_any R C k j g cap (R * C) b _ _ _ (hFW.mk' hcs2 _ _) hb (by simp [hlS]) hR hC ?_ ?_ ?_).mono ?_); (focus omega); (focus omega); (focus (simp only [List.length_set]; omega)); rintro e w1 ⟨rfl, hw2⟩; obtain ⟨cs3, o5, n5, rfl, hcs3⟩ := Wrote.trans ⟨cs2, _, _, rfl, hcs2⟩ gl hw2))
      go_roundw
      case rel =>
        refine ⟨j + 1, cs3, _, _, by omega, by go_num, rfl, ?_⟩
        unfold swaps
        rw [← HS.out]; exact hcs3
      case measure => simp [intOf]; omega
    · have e : C = j := by omega
      go_wp2
      go_end0
      exact ⟨rfl, Wrote.grew_l g0 (by omega) ⟨cs, _, _, rfl, by unfold rrowsL; rw [e] at hcs ⊢; exact hcs⟩⟩
/-- The pairs (0, z0), (1, z1), ..: what is done to the table. -/
def rtakeTo (C : Nat) (l : List Nat) (zs : List Int) : Nat → List Nat
  | 0 => l
  | k + 1 => rrowsL C (rtakeTo C l zs k) k (zs.getD k 0).toNat
@[simp] theorem rtakeTo_length (C : Nat) (l : List Nat) (zs : List Int) : ∀ k, (rtakeTo C l zs k).length = l.length
  | 0 => rfl
  | k + 1 => by unfold rtakeTo; rw [rrowsL_length, rtakeTo_length C l zs k]
/-- Are the first k of the order in range? -/
def ordTo (R : Int) (zs : List Int) : Nat → Bool
  | 0 => true
  | k + 1 => ordTo R zs k && decide ((k : Int) ≤ zs.getD k 0) && decide (zs.getD k 0 < R)
theorem ordTo_at {R : Int} {zs : List Int} : ∀ {n : Nat}, ordTo R zs n = true → ∀ k, k < n → (k : Int) ≤ zs.getD k 0 ∧ zs.getD k 0 < R
  | 0, _, k, hk => absurd hk (by omega)
  | n + 1, h, k, hk => by
    simp only [ordTo, Bool.and_eq_true, decide_eq_true_eq] at h
    rcases Nat.lt_or_ge k n with h1 | h1
    · exact ordTo_at h.1.1 k h1
    · obtain rfl : k = n := by omega
      exact ⟨h.1.2, h.2⟩
theorem ordTo_false {R : Int} {zs : List Int} {n : Nat} (h : ordTo R zs n = false) : ∀ m, n ≤ m → ordTo R zs m = false
  | 0, hm => by obtain rfl : n = 0 := by omega
                exact h
  | m + 1, hm => by
    rcases Nat.lt_or_ge m n with h1 | h1
    · obtain rfl : n = m + 1 := by omega
      exact h
    · simp [ordTo, ordTo_false h m h1]
def takeE (R : Int) (zs : List Int) : Int := if R < zs.length then 3 else if ordTo R zs zs.length = true then 0 else 1
theorem takeE_1 {R : Int} {zs : List Int} (h : ¬ R < zs.length) (q : ordTo R zs zs.length = false) : takeE R zs = 1 := by
  unfold takeE; rw [if_neg h, if_neg (by rw [q]; decide)]
def rtakeL (R C : Nat) (l : List Nat) (zs : List Int) : List Nat := if takeE R zs = 0 then rtakeTo C l zs zs.length else l
set_option maxRecDepth 100000 in
set_option maxHeartbeats 2000000 in
/-- straightedgeref04.Take. -/
theorem rtake_any (R C g cap : Nat) (ws : List Nat) (O : Value) (zs : List Int) (w : World) (hF : FW w g ws) (hO : IS .i64 w O zs) (hng : ∀ a l c, 0 < zs.length → O = .slice (some a) l c → a.block < g) (hlen : ws.length = R * C) (hR : R ≤ 1000) (hC : C ≤ 1000) :
   Calls Try.prog 50 #[.agg #[.int .i64 R, .int .i64 C, .slice (some ⟨g, 0, none⟩) (R * C) cap], O] w
     (fun e w' => e = .returned (.int .i64 (takeE R zs)) ∧ Wrote w w' g (rtakeL R C ws zs)) := by
  have hltg := hF.lt
  obtain ⟨aO, capO, rfl⟩ := hO.shape
  have hlO := hO.len
  by_cases c1 : (R : Int) < zs.length
  · have q : takeE R zs = 3 := by simp [takeE, c1]
    have q2 : rtakeL R C ws zs = ws := by simp [rtakeL, q]
    rw [q, q2]
    go_enter Try.func50, Try.ntmps50
    go_wp2
    go_ret
    exact ⟨rfl, Wrote.grew_r (Wrote.refl hF) (by (show Grew _ _; repeat (first | (with_reducible exact Grew.refl _) | (with_reducible assumption) | (with_reducible refine Grew.ext ?_ _ _) | (with_reducible refine Grew.alloc ?_ _) | ((with_reducible refine Grew.setCell ?_ ?_ _); rotate_left; (focus (dsimp only; first | omega | (simp only [size_ext, World.size_alloc, Array.size_append]; omega)))) | (with_reducible refine Grew.drewN ?_ _) | (with_reducible refine Grew.drew ?_))))⟩
  · have hlR : zs.length ≤ R := by omega
    have dn : decide (R < zs.length) = false := by simp; omega
    have dI : decide ((R : Int) < (zs.length : Int)) = false := by simp; omega
    have HO := hid hO
    clear hO
    go_enter Try.func50, Try.ntmps50
    refine seq_stop ?_
    go_wp2
    refine stop_go (fun W hW => ?_)
    have s1 : w.heap.size < W.heap.size := by rw [hW]; simp only [World.size_alloc]; omega
    have b1 : ∀ i, W.cell? ⟨w.heap.size, i, none⟩ = (#[.int .i64 R, .int .i64 C, .slice (some ⟨g, 0, none⟩) (R * C) cap] : Array Value)[i]? := by intro i; rw [hW]; go_simp
    have f1 : ∀ i, W.frozen? ⟨w.heap.size, i, none⟩ = false := by intro i; rw [hW]; go_simp
    have g0 : Grew w W := by rw [hW]; exact (Grew.refl _).alloc _
    clear hW
    have hOW : IS .i64 W (.slice aO zs.length capO) zs := HO.out.grew g0
    have hFW := hF.grew g0
    have gl := hFW.lt
    have q1 : w.heap.size ≠ g := by omega
    have HOW := hid hOW
    clear hOW
    go_wp2
    go_loopw [5] (fun c wr => ∃ (i : Nat) (o : Array Obj) (n : Nat), i ≤ zs.length ∧ c = .int .i64 i ∧ wr = ext W o n ∧ ordTo R zs i = true) (fun c _ => zs.length - (intOf c).toNat)
    case atStart => exact ⟨0, #[], _, Nat.zero_le _, rfl, ext_zero.symm, rfl⟩
    case round =>
      obtain ⟨i, o1, n1, hi, rfl, hwr, hord⟩ := hrel
      subst hwr
      have Hord := hid hord
      clear hord
      by_cases hlt : i < zs.length
      · obtain ⟨blk, o, rfl, hblk, hc⟩ := HOW.out.at.2 (by omega)
        have hb := hc i hlt
        obtain ⟨z, hz⟩ : ∃ z, z = zs.getD i 0 := ⟨_, rfl⟩
        rw [← hz] at hb
        have hstep : ordTo R zs (i + 1) = (decide ((i : Int) ≤ z) && decide (z < R)) := by rw [ordTo, Hord.out, ← hz]; simp
        have Hst := hid hstep
        have Hz := hid hz
        clear hc hstep hz
        by_cases e1 : z < (i : Int)
        · have d1 : decide (z < (i : Int)) = true := by simpa using e1
          have q0 := ordTo_false (n := i + 1) (by rw [Hst.out]; simp; omega) zs.length (by omega)
          have q := hid (takeE_1 (by omega) q0)
          have q2 := hid (show rtakeL R C ws zs = ws by unfold rtakeL; rw [q.out]; rfl)
          clear q0
          go_wp2
          refine wp_region_R (Grew W) [] [(0,0), (0,1), (0,2), (0,3), (0,4), (0,5), (0,6), (0,7), (0,8), (0,9), (0,10), (0,11), (0,12), (0,13), (0,14)] (by kernel_rfl) (by kernel_rfl) (fun _ _ _ _ h _ => h) (by first | exact ⟨_, _, ext_drew⟩ | exact ⟨_, _, drew_ext0⟩) ?_
          go_wp2_with (first | ((with_reducible refine wpR_id ?_); first | (refine wpR_take (v := ?_) rfl rfl ?_ ?_; rotate_left; (focus (rintro w' ⟨o', n', rfl⟩; go_simp; try with_reducible rfl)); simp only [Act.put, List.setIfInBounds_toArray, List.set_cons_zero, List.set_cons_succ]) | (refine wpR_pure (v := ?_) rfl rfl ?_ ?_; rotate_left; (focus (intro w'; go_simp; try with_reducible rfl)); simp only [Act.put, List.setIfInBounds_toArray, List.set_cons_zero, List.set_cons_succ]) | (refine wpR_takeG (v := ?_) rfl rfl rfl rfl rfl ?_ ?_; rotate_left; (focus (rintro w' ⟨o', n', rfl⟩; go_simp; try with_reducible rfl)); simp only [Act.put, List.setIfInBounds_toArray, List.set_cons_zero, List.set_cons_succ]) | (refine wpR_skip rfl rfl rfl rfl rfl rfl ?_; simp only [Act.put, List.setIfInBounds_toArray, List.set_cons_zero, List.set_cons_succ]) | (refine wpR_skipU rfl rfl rfl rfl rfl ?_; simp only [Act.put, List.setIfInBounds_toArray, List.set_cons_zero, List.set_cons_succ]) | (refine wpR_do rfl rfl (fun K hK => ?_)) | (refine wpR_doG rfl rfl rfl rfl rfl (fun K hK => ?_)) | (refine wpR_last rfl rfl (fun K hK => ?_)) | (refine wpR_nil ?_)) | ((with_reducible refine wpR_go ?_ ?_); (focus exact ⟨_, _, rfl⟩)) | ((with_reducible refine upon_id ?_); refine upon_fop rfl (by assumption) (by assumption) ?_; intro rr nn hr))
          go_ret
          exact ⟨by rw [q.out]; rfl, by rw [q2.out]; exact Wrote.grew_r (Wrote.refl hF) (by (show Grew _ _; repeat (first | (with_reducible exact Grew.refl _) | (with_reducible assumption) | (with_reducible refine Grew.ext ?_ _ _) | (with_reducible refine Grew.alloc ?_ _) | ((with_reducible refine Grew.setCell ?_ ?_ _); rotate_left; (focus (dsimp only; first | omega | (simp only [size_ext, World.size_alloc, Array.size_append]; omega)))) | (with_reducible refine Grew.drewN ?_ _) | (with_reducible refine Grew.drew ?_))))⟩
        · have d1 : decide (z < (i : Int)) = false := by simpa using e1
          by_cases e2 : (R : Int) ≤ z
          · have d2 : decide ((R : Int) ≤ z) = true := by simpa using e2
            have q0 := ordTo_false (n := i + 1) (by rw [Hst.out]; simp; omega) zs.length (by omega)
            have q := hid (takeE_1 (by omega) q0)
            have q2 := hid (show rtakeL R C ws zs = ws by unfold rtakeL; rw [q.out]; rfl)
            clear q0
            go_wp2
            refine wp_region_R (Grew W) [] [(0,0), (0,1), (0,2), (0,3), (0,4), (0,5), (0,6), (0,7), (0,8), (0,9), (0,10), (0,11), (0,12), (0,13), (0,14)] (by kernel_rfl) (by kernel_rfl) (fun _ _ _ _ h _ => h) (by first | exact ⟨_, _, ext_drew⟩ | exact ⟨_, _, drew_ext0⟩) ?_
            go_wp2_with (first | ((with_reducible refine wpR_id ?_); first | (refine wpR_take (v := ?_) rfl rfl ?_ ?_; rotate_left; (focus (rintro w' ⟨o', n', rfl⟩; go_simp; try with_reducible rfl)); simp only [Act.put, List.setIfInBounds_toArray, List.set_cons_zero, List.set_cons_succ]) | (refine wpR_pure (v := ?_) rfl rfl ?_ ?_; rotate_left; (focus (intro w'; go_simp; try with_reducible rfl)); simp only [Act.put, List.setIfInBounds_toArray, List.set_cons_zero, List.set_cons_succ]) | (refine wpR_takeG (v := ?_) rfl rfl rfl rfl rfl ?_ ?_; rotate_left; (focus (rintro w' ⟨o', n', rfl⟩; go_simp; try with_reducible rfl)); simp only [Act.put, List.setIfInBounds_toArray, List.set_cons_zero, List.set_cons_succ]) | (refine wpR_skip rfl rfl rfl rfl rfl rfl ?_; simp only [Act.put, List.setIfInBounds_toArray, List.set_cons_zero, List.set_cons_succ]) | (refine wpR_skipU rfl rfl rfl rfl rfl ?_; simp only [Act.put, List.setIfInBounds_toArray, List.set_cons_zero, List.set_cons_succ]) | (refine wpR_do rfl rfl (fun K hK => ?_)) | (refine wpR_doG rfl rfl rfl rfl rfl (fun K hK => ?_)) | (refine wpR_last rfl rfl (fun K hK => ?_)) | (refine wpR_nil ?_)) | ((with_reducible refine wpR_go ?_ ?_); (focus exact ⟨_, _, rfl⟩)) | ((with_reducible refine upon_id ?_); refine upon_fop rfl (by assumption) (by assumption) ?_; intro rr nn hr))
            go_ret
            exact ⟨by rw [q.out]; rfl, by rw [q2.out]; exact Wrote.grew_r (Wrote.refl hF) (by (show Grew _ _; repeat (first | (with_reducible exact Grew.refl _) | (with_reducible assumption) | (with_reducible refine Grew.ext ?_ _ _) | (with_reducible refine Grew.alloc ?_ _) | ((with_reducible refine Grew.setCell ?_ ?_ _); rotate_left; (focus (dsimp only; first | omega | (simp only [size_ext, World.size_alloc, Array.size_append]; omega)))) | (with_reducible refine Grew.drewN ?_ _) | (with_reducible refine Grew.drew ?_))))⟩
          · have d2 : decide ((R : Int) ≤ z) = false := by simpa using e2
            go_wp2
            refine wp_region_R (Grew W) [] [(0,0), (0,1), (0,2), (0,3), (0,4), (0,5), (0,6), (0,7), (0,8), (0,9), (0,10), (0,11), (0,12), (0,13), (0,14)] (by kernel_rfl) (by kernel_rfl) (fun _ _ _ _ h _ => h) (by first | exact ⟨_, _, ext_drew⟩ | exact ⟨_, _, drew_ext0⟩) ?_
            go_wp2_with (first | ((with_reducible refine wpR_id ?_); first | (refine wpR_take (v := ?_) rfl rfl ?_ ?_; rotate_left; (focus (rintro w' ⟨o', n', rfl⟩; go_simp; try with_reducible rfl)); simp only [Act.put, List.setIfInBounds_toArray, List.set_cons_zero, List.set_cons_succ]) | (refine wpR_pure (v := ?_) rfl rfl ?_ ?_; rotate_left; (focus (intro w'; go_simp; try with_reducible rfl)); simp only [Act.put, List.setIfInBounds_toArray, List.set_cons_zero, List.set_cons_succ]) | (refine wpR_takeG (v := ?_) rfl rfl rfl rfl rfl ?_ ?_; rotate_left; (focus (rintro w' ⟨o', n', rfl⟩; go_simp; try with_reducible rfl)); simp only [Act.put, List.setIfInBounds_toArray, List.set_cons_zero, List.set_cons_succ]) | (refine wpR_skip rfl rfl rfl rfl rfl rfl ?_; simp only [Act.put, List.setIfInBounds_toArray, List.set_cons_zero, List.set_cons_succ]) | (refine wpR_skipU rfl rfl rfl rfl rfl ?_; simp only [Act.put, List.setIfInBounds_toArray, List.set_cons_zero, List.set_cons_succ]) | (refine wpR_do rfl rfl (fun K hK => ?_)) | (refine wpR_doG rfl rfl rfl rfl rfl (fun K hK => ?_)) | (refine wpR_last rfl rfl (fun K hK => ?_)) | (refine wpR_nil ?_)) | ((with_reducible refine wpR_go ?_ ?_); (focus exact ⟨_, _, rfl⟩)) | ((with_reducible refine upon_id ?_); refine upon_fop rfl (by assumption) (by assumption) ?_; intro rr nn hr))
            go_roundw
            case rel => exact ⟨i + 1, _, _, by omega, by go_num, rfl, by rw [Hst.out]; simp; omega⟩
            case measure => simp [intOf]; omega
      · have e : i = zs.length := by omega
        subst e
        have q := hid (show takeE R zs = 0 by unfold takeE; rw [if_neg (by omega), if_pos Hord.out])
        have q2 := hid (show rtakeL R C ws zs = rtakeTo C ws zs zs.length by unfold rtakeL; rw [if_pos q.out])
        have hFX := hFW.ext o1 n1
        go_wp2
        go_loopw [6] (fun c wr => ∃ (i : Nat) (cs : Array Value) (o : Array Obj) (n : Nat), i ≤ zs.length ∧ c = .int .i64 i ∧ wr = ext (upd W g cs) o n ∧ CF cs (rtakeTo C ws zs i)) (fun c _ => zs.length - (intOf c).toNat)
        case atStart =>
          obtain ⟨cs, h1, h2⟩ := hFW.self
          exact ⟨0, cs, o1, n1, Nat.zero_le _, rfl, by rw [h1], h2⟩
        case round =>
          obtain ⟨i, cs, o2, n2, hi, rfl, hwr, hcs⟩ := hrel
          subst hwr
          by_cases hlt : i < zs.length
          · obtain ⟨blk, o, rfl, hblk, hc⟩ := HOW.out.at.2 (by omega)
            have hb := hc i hlt
            have hz := ordTo_at Hord.out i hlt
            obtain ⟨z, hz2⟩ : ∃ z : Nat, zs.getD i 0 = z := ⟨(zs.getD i 0).toNat, by omega⟩
            have hl2 : (rtakeTo C ws zs i).length = R * C := by simp [hlen]
            have hz3 : (zs.getD i 0).toNat = z := by omega
            rw [hz2] at hb hz
            have Hz := hid hz3
            have qb : blk ≠ g := Nat.ne_of_lt (hng _ _ _ (by omega) rfl)
            clear hc hz2 hz3
            go_wp2
            refine wp_region_R (Over W g) [] [(0,0), (0,1), (0,2), (0,3), (0,4), (0,5), (1,6)] (by kernel_rfl) (by kernel_rfl) (fun _ _ _ _ h _ => h) ⟨_, _, _, ext_drew⟩ ?_
            go_wp2_with (first
              | ((with_reducible refine wpR_id ?_); first | (refine wpR_take (v := ?_) rfl rfl ?_ ?_; rotate_left; (focus (rintro w' ⟨cs', o', n', rfl⟩; go_simp; try with_reducible rfl)); simp only [Act.put, List.setIfInBounds_toArray, List.set_cons_zero, List.set_cons_succ]) | (refine wpR_pure (v := ?_) rfl rfl ?_ ?_; rotate_left; (focus (intro w'; go_simp; try with_reducible rfl)); simp only [Act.put, List.setIfInBounds_toArray, List.set_cons_zero, List.set_cons_succ]) | (refine wpR_takeG (v := ?_) rfl rfl rfl rfl rfl ?_ ?_; rotate_left; (focus (rintro w' ⟨cs', o', n', rfl⟩; go_simp; try with_reducible rfl)); simp only [Act.put, List.setIfInBounds_toArray, List.set_cons_zero, List.set_cons_succ]) | (refine wpR_skip rfl rfl rfl rfl rfl rfl ?_; simp only [Act.put, List.setIfInBounds_toArray, List.set_cons_zero, List.set_cons_succ]) | (refine wpR_skipU rfl rfl rfl rfl rfl ?_; simp only [Act.put, List.setIfInBounds_toArray, List.set_cons_zero, List.set_cons_succ]) | (refine wpR_do rfl rfl (fun K hK => ?_)) | (refine wpR_doG rfl rfl rfl rfl rfl (fun K hK => ?_)) | (refine wpR_last rfl rfl (fun K hK => ?_)) | (refine wpR_nil ?_)) | ((with_reducible refine wpR_go ?_ ?_); (focus exact ⟨_, _, _, rfl⟩)) | ((with_reducible refine upon_id ?_); refine upon_fop rfl (by assumption) (by assumption) ?_; intro rr nn hr)
              | (go_at_call 49; ((with_reducible refine (rrows_any R C i z g cap _ _ (hFW.mk' hcs _ _) hl2 hR hC ?_ ?_).mono ?_); (focus omega); (focus omega); rintro e w1 ⟨rfl, hw⟩; obtain ⟨cs2, o4, n4, rfl, hcs2⟩ := Wrote.trans ⟨cs, _, _, rfl, hcs⟩ gl hw)))
            go_roundw
            case rel =>
              refine ⟨i + 1, cs2, _, _, by omega, by go_num, rfl, ?_⟩
              unfold rtakeTo
              rw [Hz.out]; exact hcs2
            case measure => simp [intOf]; omega
          · have e : i = zs.length := by omega
            subst e
            go_wp2
            go_ret
            exact ⟨by rw [q.out]; rfl, by rw [q2.out]; exact Wrote.grew_l g0 (by omega) ⟨cs, _, _, rfl, hcs⟩⟩
end Go.Proofs.Ytcmggfpcbijcjaa
