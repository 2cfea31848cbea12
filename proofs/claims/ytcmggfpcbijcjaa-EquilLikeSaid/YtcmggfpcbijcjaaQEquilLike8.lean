/-
  Texts laid one behind the other (a claim has at most 60 files): Equil4, Dense, Equil5, LawEqf, Cpy, Dense0, MatD.
-/
import Derived.Deep.CutBlock
import Derived.Deep.DeepCutAuto
import Derived.Laws.CopyOwn
import Derived.Test.YtcmggfpcbijcjaaQEquilLike1
import Derived.Test.YtcmggfpcbijcjaaQEquilLike2
import Derived.Test.YtcmggfpcbijcjaaQEquilLike3
import Derived.Test.YtcmggfpcbijcjaaQEquilLike4
import Derived.Test.YtcmggfpcbijcjaaQEquilLike5
import Derived.Test.YtcmggfpcbijcjaaQEquilLike6
import Derived.Test.YtcmggfpcbijcjaaQEquilLike7
section
/-
  Contract: straightedgeref15.Factors.
-/
set_option linter.unusedSimpArgs false
set_option linter.unusedVariables false
open Go Go.RowKit Sedge
namespace Go.Proofs.Ytcmggfpcbijcjaa
theorem best_none {X : Nat → Nat} {e : Nat → Int} {n : Nat} (h : feq0 (X n) = false) (h2 : bestTo X e n = none) : bestTo X e (n + 1) = some (e n) := by
  show (if feq0 (X n) = true then _ else _) = _
  rw [if_neg (by rw [h]; decide), h2]
theorem best_more {X : Nat → Nat} {e : Nat → Int} {n : Nat} {c : Int} (h : feq0 (X n) = false) (h2 : bestTo X e n = some c) : bestTo X e (n + 1) = some (max c (e n)) := by
  show (if feq0 (X n) = true then _ else _) = _
  rw [if_neg (by rw [h]; decide), h2]
set_option maxRecDepth 100000 in
set_option maxHeartbeats 4000000 in
/-- straightedgeref15.Factors. -/
theorem rfact_any (M : Nat → Nat → Nat) (R C : Nat) (A : Value) (T : List Nat) (w : World) (hA : FS w A T) (hT : T.length = R * C) (hM : ∀ i j, i < R → j < C → T.getD (i * C + j) 0 = M i j) (hr : R ≤ 1000) (hc : C ≤ 1000) :
    Calls Try.prog 103 #[.agg #[.int .i64 R, .int .i64 C, A]] w (fun e w' => ∃ v1 v2 a rs cs, e = .returned (.tuple #[v1, v2, .int .i64 a]) ∧ FactsOut M R C a rs cs ∧ IS .i64 w' v1 rs ∧ IS .i64 w' v2 cs ∧ ∃ o n, w' = ext w o n) := by
  have hAt : ∀ (i j : Nat) w', i < R → j < C → Grew w w' → Calls Try.prog 72 #[.agg #[.int .i64 R, .int .i64 C, A], .int .i64 i, .int .i64 j] w' (fun e w2 => ∃ b, e = .returned (.float .f64 b) ∧ IsF b (M i j) ∧ ∃ o n, w2 = ext w' o n) := fun i j w' hi hj gg => by
    have hk : i * C + j < R * C := by
      have := Nat.mul_le_mul_right C (show i + 1 ≤ R by omega)
      rw [Nat.add_mul] at this; omega
    have h := rat_any R C i j A T w' (hA.grew gg) (by omega) (by omega) (by omega) (by omega) (by omega)
    rw [hM i j hi hj] at h
    exact h
  have hEx : ∀ (b i j : Nat) w', IsF b (M i j) → Calls Try.prog 180 #[.float .f64 b] w' (fun e w2 => e = .returned (.int .i64 (fexp (M i j))) ∧ w' = w2) := fun b i j w' h => rexp_any b _ w' h
  have hzero : ∀ (b i j : Nat), IsF b (M i j) → (FloatKind.f64.format.order b 0 != some Ordering.eq) = !(feq0 (M i j)) := fun b i j h => by
    unfold feq0; rw [← h.order isF_zero]; rfl
  clear hA hM hT
  go_enter Try.func103, Try.ntmps103
  refine seq_stop ?_
  go_wp2
  refine stop_go (fun W hW => ?_)
  have s1 : w.heap.size < W.heap.size := by rw [hW]; simp only [World.size_alloc]; omega
  have b1 : ∀ i, W.cell? ⟨w.heap.size, i, none⟩ = (#[.int .i64 R, .int .i64 C, A] : Array Value)[i]? := by intro i; rw [hW]; go_simp
  have X1 : Box W (w.heap.size) #[.int .i64 R, .int .i64 C, A] := by rw [hW]; exact Box.new' (by first | rfl | (simp only [World.size_alloc]; done) | (simp only [World.size_alloc]; omega))
  have f1 : ∀ i, W.frozen? ⟨w.heap.size, i, none⟩ = false := by intro i; rw [hW]; go_simp
  have g0 : Grew w W := by rw [hW]; exact (Grew.refl _).alloc _
  clear hW
  obtain ⟨p1, hp1⟩ : ∃ p, p = w.heap.size := ⟨_, rfl⟩
  have Y1 : Box W p1 #[.int .i64 R, .int .i64 C, A] := by rw [hp1]; exact X1
  have z1 : w.heap.size ≤ p1 := by omega
  simp only [← hp1]
  clear X1 b1 s1 f1 hp1
  have t1 := Y1.cell
  have l1 := Y1.lt
  have HAt := hid hAt
  go_wp2
  clear t1 l1
  go_loopw [5, 7] (fun v c wr => ∃ (i : Nat), i ≤ R ∧ c = .int .i64 i ∧ Grew w wr ∧ Box wr p1 #[.int .i64 R, .int .i64 C, A] ∧ OwnI wr w.heap.size v (rowsTo' M C i) ∧ (∀ k, k < i → rowB M C k ≠ none) ∧ (∀ k, v.ownBlock = some k → k ≠ p1)) (fun _ c _ => R - (intOf c).toNat)
  case atStart => exact ⟨0, Nat.zero_le _, rfl, g0, Y1, OwnI.nil _ _, fun k hk => absurd hk (Nat.not_lt_zero k), fun k hk => by simp [Value.ownBlock] at hk⟩
  case round =>
    clear Y1 g0
    obtain ⟨i, hi, rfl, gr, B1, hown, hall, nv⟩ := hrel
    have t1 := B1.cell
    have l1 := B1.lt
    by_cases hlt : i < R
    · have hown' : ∀ w', Grew wr w' → w'.ownsRow w.heap.size 3 1 u5 ((rowsTo' M C i).map (Value.int .i64)).length ((rowsTo' M C i).map (Value.int .i64)) := fun w' g => by rw [List.length_map]; exact hown.grew g
      have lu : ((rowsTo' M C i).map (Value.int .i64)).length < 17592186044415 := by rw [List.length_map, rowsTo'_length]; omega
      go_wp2
      obtain ⟨V, rfl⟩ : ∃ V, V = wr := ⟨_, rfl⟩
      go_loopw [8, 9, 10] (fun bst sm c wx => ∃ (j : Nat), j ≤ C ∧ c = .int .i64 j ∧ Grew V wx ∧ bst = .int .i64 ((bestTo (fun j => M i j) (fun j => fexp (M i j)) j).getD 0) ∧ sm = .bool (bestTo (fun j => M i j) (fun j => fexp (M i j)) j).isSome) (fun _ _ c _ => C - (intOf c).toNat)
      case atStart => exact ⟨0, Nat.zero_le _, rfl, Grew.refl _, rfl, rfl⟩
      case round =>
        obtain ⟨j, hj, rfl, gx, rfl, rfl⟩ := hrel
        have tX := (B1.grew gx).cell
        have lX := (B1.grew gx).lt
        by_cases hjl : j < C
        · have hAj := fun w' g => HAt.out i j w' hlt hjl (Grew.trans gr (Grew.trans gx g))
          obtain ⟨E, hE⟩ : ∃ E, E = fexp (M i j) := ⟨_, rfl⟩
          have hEj := fun b w' h => hEx b i j w' h
          have hzj := fun b h => hzero b i j h
          rw [← hE] at hEj
          have HE := hid hE
          cases hq : feq0 (M i j)
          · rw [hq] at hzj
            cases hb : bestTo (fun j => M i j) (fun j => fexp (M i j)) j with
            | none =>
              have hn := best_none (X := fun j => M i j) (e := fun j => fexp (M i j)) hq hb
              rw [← hE] at hn
              have HN := hid hn
              clear hn hb hq hE hAt
              go_upto_region 10 with (first | (go_at_call 72; ((with_reducible refine (hAj _ (by (show Grew _ _; (try simp only [← Array.append_assoc]); repeat (first | (with_reducible exact Grew.same_o) | (with_reducible exact Grew.refl _) | (with_reducible assumption) | (with_reducible refine Grew.alloc ?_ _) | (with_reducible refine Grew.app_r ?_) | ((with_reducible refine Grew.setCell ?_ ?_ _); rotate_left; (focus (dsimp only; first | omega | (simp only [size_ext, World.size_alloc, Array.size_append]; omega)))) | (with_reducible refine Grew.ext ?_ _ _) | (with_reducible refine Grew.drewN ?_ _) | (with_reducible refine Grew.drew ?_))))).mono ?_); rintro e w1 ⟨b, rfl, hbf, o1, n1, rfl⟩)))
              have hzb := hzj b hbf
              go_wp2_with (first | (go_at_call 180; ((with_reducible refine (hEj b _ hbf).mono ?_); rintro e w1 ⟨rfl, rfl⟩)))
              go_roundw
              case rel => exact ⟨j + 1, hjl, by go_num, Grew.trans gx (by (show Grew _ _; (try simp only [← Array.append_assoc]); repeat (first | (with_reducible exact Grew.same_o) | (with_reducible exact Grew.refl _) | (with_reducible assumption) | (with_reducible refine Grew.alloc ?_ _) | (with_reducible refine Grew.app_r ?_) | ((with_reducible refine Grew.setCell ?_ ?_ _); rotate_left; (focus (dsimp only; first | omega | (simp only [size_ext, World.size_alloc, Array.size_append]; omega)))) | (with_reducible refine Grew.ext ?_ _ _) | (with_reducible refine Grew.drewN ?_ _) | (with_reducible refine Grew.drew ?_)))), by rw [HN.out]; rfl, by rw [HN.out]; rfl⟩
              case measure => simp [intOf]; omega
            | some c0 =>
              have hn := best_more (X := fun j => M i j) (e := fun j => fexp (M i j)) hq hb
              rw [← hE] at hn
              by_cases hlt2 : c0 < E
              · have hd : decide (c0 < E) = true := by simpa using hlt2
                rw [show max c0 E = E by omega] at hn
                have HN := hid hn
                clear hn hb hq hE hAt
                go_upto_region 10 with (first | (go_at_call 72; ((with_reducible refine (hAj _ (by (show Grew _ _; (try simp only [← Array.append_assoc]); repeat (first | (with_reducible exact Grew.same_o) | (with_reducible exact Grew.refl _) | (with_reducible assumption) | (with_reducible refine Grew.alloc ?_ _) | (with_reducible refine Grew.app_r ?_) | ((with_reducible refine Grew.setCell ?_ ?_ _); rotate_left; (focus (dsimp only; first | omega | (simp only [size_ext, World.size_alloc, Array.size_append]; omega)))) | (with_reducible refine Grew.ext ?_ _ _) | (with_reducible refine Grew.drewN ?_ _) | (with_reducible refine Grew.drew ?_))))).mono ?_); rintro e w1 ⟨b, rfl, hbf, o1, n1, rfl⟩)))
                have hzb := hzj b hbf
                go_wp2_with (first | (go_at_call 180; ((with_reducible refine (hEj b _ hbf).mono ?_); rintro e w1 ⟨rfl, rfl⟩)))
                go_roundw
                case rel => exact ⟨j + 1, hjl, by go_num, Grew.trans gx (by (show Grew _ _; (try simp only [← Array.append_assoc]); repeat (first | (with_reducible exact Grew.same_o) | (with_reducible exact Grew.refl _) | (with_reducible assumption) | (with_reducible refine Grew.alloc ?_ _) | (with_reducible refine Grew.app_r ?_) | ((with_reducible refine Grew.setCell ?_ ?_ _); rotate_left; (focus (dsimp only; first | omega | (simp only [size_ext, World.size_alloc, Array.size_append]; omega)))) | (with_reducible refine Grew.ext ?_ _ _) | (with_reducible refine Grew.drewN ?_ _) | (with_reducible refine Grew.drew ?_)))), by rw [HN.out]; rfl, by rw [HN.out]; rfl⟩
                case measure => simp [intOf]; omega
              · have hd : decide (c0 < E) = false := by simpa using hlt2
                rw [show max c0 E = c0 by omega] at hn
                have HN := hid hn
                clear hn hb hq hE hAt
                go_upto_region 10 with (first | (go_at_call 72; ((with_reducible refine (hAj _ (by (show Grew _ _; (try simp only [← Array.append_assoc]); repeat (first | (with_reducible exact Grew.same_o) | (with_reducible exact Grew.refl _) | (with_reducible assumption) | (with_reducible refine Grew.alloc ?_ _) | (with_reducible refine Grew.app_r ?_) | ((with_reducible refine Grew.setCell ?_ ?_ _); rotate_left; (focus (dsimp only; first | omega | (simp only [size_ext, World.size_alloc, Array.size_append]; omega)))) | (with_reducible refine Grew.ext ?_ _ _) | (with_reducible refine Grew.drewN ?_ _) | (with_reducible refine Grew.drew ?_))))).mono ?_); rintro e w1 ⟨b, rfl, hbf, o1, n1, rfl⟩)))
                have hzb := hzj b hbf
                go_wp2_with (first | (go_at_call 180; ((with_reducible refine (hEj b _ hbf).mono ?_); rintro e w1 ⟨rfl, rfl⟩)))
                go_roundw
                case rel => exact ⟨j + 1, hjl, by go_num, Grew.trans gx (by (show Grew _ _; (try simp only [← Array.append_assoc]); repeat (first | (with_reducible exact Grew.same_o) | (with_reducible exact Grew.refl _) | (with_reducible assumption) | (with_reducible refine Grew.alloc ?_ _) | (with_reducible refine Grew.app_r ?_) | ((with_reducible refine Grew.setCell ?_ ?_ _); rotate_left; (focus (dsimp only; first | omega | (simp only [size_ext, World.size_alloc, Array.size_append]; omega)))) | (with_reducible refine Grew.ext ?_ _ _) | (with_reducible refine Grew.drewN ?_ _) | (with_reducible refine Grew.drew ?_)))), by rw [HN.out]; rfl, by rw [HN.out]; rfl⟩
                case measure => simp [intOf]; omega
          · rw [hq] at hzj
            have hn := best_zero (X := fun j => M i j) (e := fun j => fexp (M i j)) hq
            have HN := hid hn
            clear hn hq hE hAt
            go_upto_region 10 with (first | (go_at_call 72; ((with_reducible refine (hAj _ (by (show Grew _ _; (try simp only [← Array.append_assoc]); repeat (first | (with_reducible exact Grew.same_o) | (with_reducible exact Grew.refl _) | (with_reducible assumption) | (with_reducible refine Grew.alloc ?_ _) | (with_reducible refine Grew.app_r ?_) | ((with_reducible refine Grew.setCell ?_ ?_ _); rotate_left; (focus (dsimp only; first | omega | (simp only [size_ext, World.size_alloc, Array.size_append]; omega)))) | (with_reducible refine Grew.ext ?_ _ _) | (with_reducible refine Grew.drewN ?_ _) | (with_reducible refine Grew.drew ?_))))).mono ?_); rintro e w1 ⟨b, rfl, hbf, o1, n1, rfl⟩)))
            have hzb := hzj b hbf
            go_wp2
            go_roundw
            case rel => exact ⟨j + 1, hjl, by go_num, Grew.trans gx (by (show Grew _ _; (try simp only [← Array.append_assoc]); repeat (first | (with_reducible exact Grew.same_o) | (with_reducible exact Grew.refl _) | (with_reducible assumption) | (with_reducible refine Grew.alloc ?_ _) | (with_reducible refine Grew.app_r ?_) | ((with_reducible refine Grew.setCell ?_ ?_ _); rotate_left; (focus (dsimp only; first | omega | (simp only [size_ext, World.size_alloc, Array.size_append]; omega)))) | (with_reducible refine Grew.ext ?_ _ _) | (with_reducible refine Grew.drewN ?_ _) | (with_reducible refine Grew.drew ?_)))), by rw [HN.out], by rw [HN.out]⟩
            case measure => simp [intOf]; omega
        · have e : j = C := by omega
          have hB : rowB M C i = bestTo (fun j => M i j) (fun j => fexp (M i j)) j := by rw [e]; rfl
          rw [← hB]
          clear hAt hEx hzero
          cases hq : rowB M C i with
          | none =>
            have rw1 : IntKind.i64.wrap ((i : Int) + 1) = (i : Int) + 1 := IntWalk.i64_in _ (by omega)
            have hof : FactsOut M R C ((i : Int) + 1) [] [] := .inl ⟨i, hlt, rfl, hq, hall, rfl, rfl⟩
            have HOF := hid hof
            clear hq hall hof hB
            subst e
            go_wp2
            refine bodyPost_ret (v := .tuple #[.slice none 0 0, .slice none 0 0, .int .i64 ((i : Int) + 1)]) (by simp [results, Try.results103, go_sem, *]) rfl ?_
            exact ⟨_, _, _, [], [], rfl, HOF.out, is_nil _, is_nil _, Grew.trans gr gx⟩
          | some b =>
            have hbb := rowB_in hq
            have rw1 : IntKind.i64.wrap (-b) = -b := IntWalk.i64_in _ (by omega)
            have hsc := rowsTo'_succ M C i
            rw [hq] at hsc
            have HSC := hid hsc
            have hall2 : ∀ k, k < i + 1 → rowB M C k ≠ none := fun k hk => by
              by_cases e : k = i
              · subst e; rw [hq]; simp
              · exact hall k (by omega)
            have HA := hid hall2
            clear hq hall hall2 hsc hB
            subst e
            have lV := B1.lt
            have zx := gx.below.size
            go_wp2_with (first | (at_builtin; refine append1_k (z0 := .int .i64 0) iundK iinfoK rfl (W := w) (v := u5) (y := .int .i64 (-b)) (xs := (rowsTo' M j i).map (Value.int .i64)) ?_ ?_ rfl lu _ _ rfl rfl rfl ?_ rfl ?_; (focus exact Grew.trans gr (Grew.trans gx (by (show Grew _ _; (try simp only [← Array.append_assoc]); repeat (first | (with_reducible exact Grew.same_o) | (with_reducible exact Grew.refl _) | (with_reducible assumption) | (with_reducible refine Grew.alloc ?_ _) | (with_reducible refine Grew.app_r ?_) | ((with_reducible refine Grew.setCell ?_ ?_ _); rotate_left; (focus (dsimp only; first | omega | (simp only [size_ext, World.size_alloc, Array.size_append]; omega)))) | (with_reducible refine Grew.ext ?_ _ _) | (with_reducible refine Grew.drewN ?_ _) | (with_reducible refine Grew.drew ?_)))))); (focus exact hown' _ (Grew.trans gx (by (show Grew _ _; (try simp only [← Array.append_assoc]); repeat (first | (with_reducible exact Grew.same_o) | (with_reducible exact Grew.refl _) | (with_reducible assumption) | (with_reducible refine Grew.alloc ?_ _) | (with_reducible refine Grew.app_r ?_) | ((with_reducible refine Grew.setCell ?_ ?_ _); rotate_left; (focus (dsimp only; first | omega | (simp only [size_ext, World.size_alloc, Array.size_append]; omega)))) | (with_reducible refine Grew.ext ?_ _ _) | (with_reducible refine Grew.drewN ?_ _) | (with_reducible refine Grew.drew ?_)))))); (focus (first | rfl | (simp only [size_ext, Array.size_append]; done) | (simp only [size_ext]; done))); intro v2 w2 gw2 zw2 hv2 hk2 hn2))
            go_roundw
            case rel =>
              refine ⟨i + 1, hlt, by go_num, gw2, ?_, ?_, HA.out, fun k hk => ?_⟩
              · obtain ⟨e, he⟩ := B1.grew gx; exact ⟨e, (hk2 p1 (by omega) (fun h => nv p1 h rfl)).trans he⟩
              · rw [HSC.out]; simpa [OwnI, bestI] using hv2
              · rcases hn2 k hk with h | h
                · exact nv k h
                · omega
            case measure => simp [intOf]; omega
    · have e : i = R := by omega
      subst e
      obtain ⟨rs, hrs⟩ : ∃ rs, rs = rowsTo' M C i := ⟨_, rfl⟩
      rw [← hrs] at hown
      have lrs : rs.length = i := by rw [hrs, rowsTo'_length]
      have brs : ∀ k, -50000 ≤ rs.getD k 0 ∧ rs.getD k 0 ≤ 50000 := fun k => by
        have := rowsTo'_in hall k
        rw [← hrs] at this; omega
      obtain ⟨av, lv, cv, rfl⟩ := owns_shape hown
      have elv : i = lv := by have := (hown.is (by rw [lrs]; omega)).at.1; omega
      subst elv
      have HALL := hid hall
      have HRS := hid hrs
      have hcolB : ∀ (j : Nat) (b : Int), colB M i rs j = some b → -100000 ≤ b ∧ b ≤ 100000 := fun j b h => bestTo_in (fun k => by have := fexp_range' (M k j); have := brs k; omega) i b h
      have HCB := hid hcolB
      clear hall hrs hcolB hAt
      go_wp2
      clear t1 l1
      go_loopw [6, 12] (fun u c wr => ∃ (j : Nat), j ≤ C ∧ c = .int .i64 j ∧ Grew w wr ∧ Box wr p1 #[.int .i64 i, .int .i64 C, A] ∧ OwnI wr w.heap.size (.slice av i cv) rs ∧ OwnI wr w.heap.size u (colsTo' M i rs j) ∧ (∀ k, k < j → colB M i rs k ≠ none) ∧ (∀ k, u.ownBlock = some k → k ≠ p1) ∧ ApartV u (.slice av i cv)) (fun _ c _ => C - (intOf c).toNat)
      case atStart => exact ⟨0, Nat.zero_le _, rfl, gr, B1, hown, OwnI.nil _ _, fun k hk => absurd hk (Nat.not_lt_zero k), fun k hk => by simp [Value.ownBlock] at hk, fun k hk => by simp [Value.ownBlock] at hk⟩
      case round =>
        clear gr B1 hown
        obtain ⟨j, hj, rfl, gr, B1, hown, hu, hall, nu, hap⟩ := hrel
        have t1 := B1.cell
        have l1 := B1.lt
        have hIS := hown.is (by rw [lrs]; omega)
        by_cases hlt : j < C
        · have hu' : ∀ w', Grew wr w' → w'.ownsRow w.heap.size 3 1 u6 ((colsTo' M i rs j).map (Value.int .i64)).length ((colsTo' M i rs j).map (Value.int .i64)) := fun w' g => by rw [List.length_map]; exact hu.grew g
          have lu : ((colsTo' M i rs j).map (Value.int .i64)).length < 17592186044415 := by rw [List.length_map, colsTo'_length]; omega
          go_wp2
          obtain ⟨V, rfl⟩ : ∃ V, V = wr := ⟨_, rfl⟩
          go_loopw [13, 14, 15] (fun bst sm c wx => ∃ (k : Nat), k ≤ i ∧ c = .int .i64 k ∧ Grew V wx ∧ bst = .int .i64 ((bestTo (fun i => M i j) (fun i => fexp (M i j) + rs.getD i 0) k).getD 0) ∧ sm = .bool (bestTo (fun i => M i j) (fun i => fexp (M i j) + rs.getD i 0) k).isSome) (fun _ _ c _ => i - (intOf c).toNat)
          case atStart => exact ⟨0, Nat.zero_le _, rfl, Grew.refl _, rfl, rfl⟩
          case round =>
            obtain ⟨k, hk, rfl, gx, rfl, rfl⟩ := hrel
            have tX := (B1.grew gx).cell
            have lX := (B1.grew gx).lt
            by_cases hkl : k < i
            · have hAk := fun w' g => HAt.out k j w' hkl hlt (Grew.trans gr (Grew.trans gx g))
              obtain ⟨bl, ol, ea, kbl0, hcc⟩ := hIS.at.2 (by omega)
              have hcz0 := hcc k (by omega)
              obtain ⟨z, hz⟩ : ∃ z, z = rs.getD k 0 := ⟨_, rfl⟩
              have hbz := brs k
              rw [← hz] at hcz0 hbz
              have hcz := (gx.cell kbl0).trans hcz0
              have kbl : bl < wr.heap.size := Nat.lt_of_lt_of_le kbl0 gx.below.size
              subst ea
              obtain ⟨F, hF⟩ : ∃ F, F = fexp (M k j) := ⟨_, rfl⟩
              have hfr := fexp_range' (M k j)
              have hEk := fun b w' h => hEx b k j w' h
              have hzk := fun b h => hzero b k j h
              rw [← hF] at hEk hfr
              have rwE : IntKind.i64.wrap (F + z) = F + z := IntWalk.i64_in _ (by omega)
              cases hq : feq0 (M k j)
              · rw [hq] at hzk
                cases hb : bestTo (fun i => M i j) (fun i => fexp (M i j) + rs.getD i 0) k with
                | none =>
                  have hn := best_none (X := fun i => M i j) (e := fun i => fexp (M i j) + rs.getD i 0) hq hb
                  rw [← hF, ← hz] at hn
                  have HN := hid hn
                  clear hn hb hq hF hz hcc hcz0 hEx hzero
                  go_upto_region 23 with (first | (go_at_call 72; ((with_reducible refine (hAk _ (by (show Grew _ _; (try simp only [← Array.append_assoc]); repeat (first | (with_reducible exact Grew.same_o) | (with_reducible exact Grew.refl _) | (with_reducible assumption) | (with_reducible refine Grew.alloc ?_ _) | (with_reducible refine Grew.app_r ?_) | ((with_reducible refine Grew.setCell ?_ ?_ _); rotate_left; (focus (dsimp only; first | omega | (simp only [size_ext, World.size_alloc, Array.size_append]; omega)))) | (with_reducible refine Grew.ext ?_ _ _) | (with_reducible refine Grew.drewN ?_ _) | (with_reducible refine Grew.drew ?_))))).mono ?_); rintro e w1 ⟨b, rfl, hbf, o1, n1, rfl⟩)))
                  have hzb := hzk b hbf
                  refine name_any (fun V1 hV1 => ?_)
                  have gV1 : Grew wr V1 := by rw [← hV1]; (show Grew _ _; (try simp only [← Array.append_assoc]); repeat (first | (with_reducible exact Grew.same_o) | (with_reducible exact Grew.refl _) | (with_reducible assumption) | (with_reducible refine Grew.alloc ?_ _) | (with_reducible refine Grew.app_r ?_) | ((with_reducible refine Grew.setCell ?_ ?_ _); rotate_left; (focus (dsimp only; first | omega | (simp only [size_ext, World.size_alloc, Array.size_append]; omega)))) | (with_reducible refine Grew.ext ?_ _ _) | (with_reducible refine Grew.drewN ?_ _) | (with_reducible refine Grew.drew ?_)))
                  have cV := (gV1.cell kbl).trans hcz
                  have kV : bl < V1.heap.size := Nat.lt_of_lt_of_le kbl gV1.below.size
                  clear hV1
                  refine wp_region_R (Grew V1) [] [(0,0), (0,1), (0,2), (0,3), (0,4), (0,5), (0,6), (0,8), (0,9), (0,10), (0,11), (0,13), (1,7), (0,12), (0,14), (0,15), (0,16)] (by kernel_rfl) (by kernel_rfl) (fun _ _ _ _ h _ => h) (by first | exact ⟨_, _, ext_drew⟩ | exact ⟨_, _, drew_ext0⟩ | (show Grew _ _; repeat (first | (with_reducible exact Grew.refl _) | (with_reducible assumption) | (with_reducible exact Grew.same_o) | (with_reducible exact Grew.app_o) | (with_reducible refine Grew.ext ?_ _ _) | (with_reducible refine Grew.alloc ?_ _) | ((with_reducible refine Grew.setCell ?_ ?_ _); rotate_left; (focus (dsimp only; first | omega | (simp only [size_ext, World.size_alloc, Array.size_append]; omega)))) | (with_reducible refine Grew.drewN ?_ _) | (with_reducible refine Grew.drew ?_)))) ?_
                  go_upto_region 24 with (first | ((with_reducible refine wpR_id ?_); first | (refine wpR_take (v := ?_) rfl rfl ?_ ?_; rotate_left; (focus (rintro w' ⟨o', n', rfl⟩; go_simp; try with_reducible rfl)); simp only [Act.put, List.setIfInBounds_toArray, List.set_cons_zero, List.set_cons_succ]) | (refine wpR_pure (v := ?_) rfl rfl ?_ ?_; rotate_left; (focus (intro w'; go_simp; try with_reducible rfl)); simp only [Act.put, List.setIfInBounds_toArray, List.set_cons_zero, List.set_cons_succ]) | (refine wpR_takeG (v := ?_) rfl rfl rfl rfl rfl ?_ ?_; rotate_left; (focus (rintro w' ⟨o', n', rfl⟩; go_simp; try with_reducible rfl)); simp only [Act.put, List.setIfInBounds_toArray, List.set_cons_zero, List.set_cons_succ]) | (refine wpR_skip rfl rfl rfl rfl rfl rfl ?_; simp only [Act.put, List.setIfInBounds_toArray, List.set_cons_zero, List.set_cons_succ]) | (refine wpR_skipU rfl rfl rfl rfl rfl ?_; simp only [Act.put, List.setIfInBounds_toArray, List.set_cons_zero, List.set_cons_succ]) | (refine wpR_do rfl rfl (fun K hK => ?_)) | (refine wpR_doG rfl rfl rfl rfl rfl (fun K hK => ?_)) | (refine wpR_last rfl rfl (fun K hK => ?_)) | (refine wpR_nil ?_)) | ((with_reducible refine wpR_go ?_ ?_); (focus (show Grew _ _; repeat (first | (with_reducible exact Grew.refl _) | (with_reducible assumption) | (with_reducible exact Grew.same_o) | (with_reducible exact Grew.app_o) | (with_reducible refine Grew.ext ?_ _ _) | (with_reducible refine Grew.alloc ?_ _) | ((with_reducible refine Grew.setCell ?_ ?_ _); rotate_left; (focus (dsimp only; first | omega | (simp only [size_ext, World.size_alloc, Array.size_append]; omega)))) | (with_reducible refine Grew.drewN ?_ _) | (with_reducible refine Grew.drew ?_))))) | ((with_reducible refine upon_id ?_); refine upon_fop rfl (by assumption) (by assumption) ?_; intro rr nn hr) | (go_at_call 180; ((with_reducible refine (hEk b _ hbf).mono ?_); rintro e w1 ⟨rfl, rfl⟩)))
                  refine name_any (fun V2 hV2 => ?_)
                  have gV2 : Grew V1 V2 := by rw [← hV2]; (show Grew _ _; (try simp only [← Array.append_assoc]); repeat (first | (with_reducible exact Grew.same_o) | (with_reducible exact Grew.refl _) | (with_reducible assumption) | (with_reducible refine Grew.alloc ?_ _) | (with_reducible refine Grew.app_r ?_) | ((with_reducible refine Grew.setCell ?_ ?_ _); rotate_left; (focus (dsimp only; first | omega | (simp only [size_ext, World.size_alloc, Array.size_append]; omega)))) | (with_reducible refine Grew.ext ?_ _ _) | (with_reducible refine Grew.drewN ?_ _) | (with_reducible refine Grew.drew ?_)))
                  have cV := (gV2.cell kV).trans cV
                  have kV : bl < V2.heap.size := Nat.lt_of_lt_of_le kV gV2.below.size
                  clear hV2
                  refine wp_region_R (Grew V2) [] [(0,0), (0,2), (0,3), (0,4), (0,5), (1,1), (0,6), (0,7), (0,8)] (by kernel_rfl) (by kernel_rfl) (fun _ _ _ _ h _ => h) (by first | exact ⟨_, _, ext_drew⟩ | exact ⟨_, _, drew_ext0⟩ | (show Grew _ _; repeat (first | (with_reducible exact Grew.refl _) | (with_reducible assumption) | (with_reducible exact Grew.same_o) | (with_reducible exact Grew.app_o) | (with_reducible refine Grew.ext ?_ _ _) | (with_reducible refine Grew.alloc ?_ _) | ((with_reducible refine Grew.setCell ?_ ?_ _); rotate_left; (focus (dsimp only; first | omega | (simp only [size_ext, World.size_alloc, Array.size_append]; omega)))) | (with_reducible refine Grew.drewN ?_ _) | (with_reducible refine Grew.drew ?_)))) ?_
                  go_wp2_with (first | ((with_reducible refine wpR_id ?_); first | (refine wpR_take (v := ?_) rfl rfl ?_ ?_; rotate_left; (focus (rintro w' ⟨o', n', rfl⟩; go_simp; try with_reducible rfl)); simp only [Act.put, List.setIfInBounds_toArray, List.set_cons_zero, List.set_cons_succ]) | (refine wpR_pure (v := ?_) rfl rfl ?_ ?_; rotate_left; (focus (intro w'; go_simp; try with_reducible rfl)); simp only [Act.put, List.setIfInBounds_toArray, List.set_cons_zero, List.set_cons_succ]) | (refine wpR_takeG (v := ?_) rfl rfl rfl rfl rfl ?_ ?_; rotate_left; (focus (rintro w' ⟨o', n', rfl⟩; go_simp; try with_reducible rfl)); simp only [Act.put, List.setIfInBounds_toArray, List.set_cons_zero, List.set_cons_succ]) | (refine wpR_skip rfl rfl rfl rfl rfl rfl ?_; simp only [Act.put, List.setIfInBounds_toArray, List.set_cons_zero, List.set_cons_succ]) | (refine wpR_skipU rfl rfl rfl rfl rfl ?_; simp only [Act.put, List.setIfInBounds_toArray, List.set_cons_zero, List.set_cons_succ]) | (refine wpR_do rfl rfl (fun K hK => ?_)) | (refine wpR_doG rfl rfl rfl rfl rfl (fun K hK => ?_)) | (refine wpR_last rfl rfl (fun K hK => ?_)) | (refine wpR_nil ?_)) | ((with_reducible refine wpR_go ?_ ?_); (focus (show Grew _ _; repeat (first | (with_reducible exact Grew.refl _) | (with_reducible assumption) | (with_reducible exact Grew.same_o) | (with_reducible exact Grew.app_o) | (with_reducible refine Grew.ext ?_ _ _) | (with_reducible refine Grew.alloc ?_ _) | ((with_reducible refine Grew.setCell ?_ ?_ _); rotate_left; (focus (dsimp only; first | omega | (simp only [size_ext, World.size_alloc, Array.size_append]; omega)))) | (with_reducible refine Grew.drewN ?_ _) | (with_reducible refine Grew.drew ?_))))) | ((with_reducible refine upon_id ?_); refine upon_fop rfl (by assumption) (by assumption) ?_; intro rr nn hr) | (go_at_call 180; ((with_reducible refine (hEk b _ hbf).mono ?_); rintro e w1 ⟨rfl, rfl⟩)))
                  go_roundw
                  case rel => exact ⟨k + 1, hkl, by go_num, Grew.trans gx (Grew.trans gV1 (Grew.trans gV2 (by (show Grew _ _; (try simp only [← Array.append_assoc]); repeat (first | (with_reducible exact Grew.same_o) | (with_reducible exact Grew.refl _) | (with_reducible assumption) | (with_reducible refine Grew.alloc ?_ _) | (with_reducible refine Grew.app_r ?_) | ((with_reducible refine Grew.setCell ?_ ?_ _); rotate_left; (focus (dsimp only; first | omega | (simp only [size_ext, World.size_alloc, Array.size_append]; omega)))) | (with_reducible refine Grew.ext ?_ _ _) | (with_reducible refine Grew.drewN ?_ _) | (with_reducible refine Grew.drew ?_)))))), by rw [HN.out]; rfl, by rw [HN.out]; rfl⟩
                  case measure => simp [intOf]; omega
                | some c0 =>
                  have hn := best_more (X := fun i => M i j) (e := fun i => fexp (M i j) + rs.getD i 0) hq hb
                  rw [← hF, ← hz] at hn
                  by_cases hlt2 : c0 < F + z
                  · have hd : decide (c0 < F + z) = true := by simpa using hlt2
                    rw [show max c0 (F + z) = F + z by omega] at hn
                    have HN := hid hn
                    clear hn hb hq hF hz hcc hcz0 hEx hzero
                    go_upto_region 23 with (first | (go_at_call 72; ((with_reducible refine (hAk _ (by (show Grew _ _; (try simp only [← Array.append_assoc]); repeat (first | (with_reducible exact Grew.same_o) | (with_reducible exact Grew.refl _) | (with_reducible assumption) | (with_reducible refine Grew.alloc ?_ _) | (with_reducible refine Grew.app_r ?_) | ((with_reducible refine Grew.setCell ?_ ?_ _); rotate_left; (focus (dsimp only; first | omega | (simp only [size_ext, World.size_alloc, Array.size_append]; omega)))) | (with_reducible refine Grew.ext ?_ _ _) | (with_reducible refine Grew.drewN ?_ _) | (with_reducible refine Grew.drew ?_))))).mono ?_); rintro e w1 ⟨b, rfl, hbf, o1, n1, rfl⟩)))
                    have hzb := hzk b hbf
                    refine name_any (fun V1 hV1 => ?_)
                    have gV1 : Grew wr V1 := by rw [← hV1]; (show Grew _ _; (try simp only [← Array.append_assoc]); repeat (first | (with_reducible exact Grew.same_o) | (with_reducible exact Grew.refl _) | (with_reducible assumption) | (with_reducible refine Grew.alloc ?_ _) | (with_reducible refine Grew.app_r ?_) | ((with_reducible refine Grew.setCell ?_ ?_ _); rotate_left; (focus (dsimp only; first | omega | (simp only [size_ext, World.size_alloc, Array.size_append]; omega)))) | (with_reducible refine Grew.ext ?_ _ _) | (with_reducible refine Grew.drewN ?_ _) | (with_reducible refine Grew.drew ?_)))
                    have cV := (gV1.cell kbl).trans hcz
                    have kV : bl < V1.heap.size := Nat.lt_of_lt_of_le kbl gV1.below.size
                    clear hV1
                    refine wp_region_R (Grew V1) [] [(0,0), (0,1), (0,2), (0,3), (0,4), (0,5), (0,6), (0,8), (0,9), (0,10), (0,11), (0,13), (1,7), (0,12), (0,14), (0,15), (0,16)] (by kernel_rfl) (by kernel_rfl) (fun _ _ _ _ h _ => h) (by first | exact ⟨_, _, ext_drew⟩ | exact ⟨_, _, drew_ext0⟩ | (show Grew _ _; repeat (first | (with_reducible exact Grew.refl _) | (with_reducible assumption) | (with_reducible exact Grew.same_o) | (with_reducible exact Grew.app_o) | (with_reducible refine Grew.ext ?_ _ _) | (with_reducible refine Grew.alloc ?_ _) | ((with_reducible refine Grew.setCell ?_ ?_ _); rotate_left; (focus (dsimp only; first | omega | (simp only [size_ext, World.size_alloc, Array.size_append]; omega)))) | (with_reducible refine Grew.drewN ?_ _) | (with_reducible refine Grew.drew ?_)))) ?_
                    go_upto_region 24 with (first | ((with_reducible refine wpR_id ?_); first | (refine wpR_take (v := ?_) rfl rfl ?_ ?_; rotate_left; (focus (rintro w' ⟨o', n', rfl⟩; go_simp; try with_reducible rfl)); simp only [Act.put, List.setIfInBounds_toArray, List.set_cons_zero, List.set_cons_succ]) | (refine wpR_pure (v := ?_) rfl rfl ?_ ?_; rotate_left; (focus (intro w'; go_simp; try with_reducible rfl)); simp only [Act.put, List.setIfInBounds_toArray, List.set_cons_zero, List.set_cons_succ]) | (refine wpR_takeG (v := ?_) rfl rfl rfl rfl rfl ?_ ?_; rotate_left; (focus (rintro w' ⟨o', n', rfl⟩; go_simp; try with_reducible rfl)); simp only [Act.put, List.setIfInBounds_toArray, List.set_cons_zero, List.set_cons_succ]) | (refine wpR_skip rfl rfl rfl rfl rfl rfl ?_; simp only [Act.put, List.setIfInBounds_toArray, List.set_cons_zero, List.set_cons_succ]) | (refine wpR_skipU rfl rfl rfl rfl rfl ?_; simp only [Act.put, List.setIfInBounds_toArray, List.set_cons_zero, List.set_cons_succ]) | (refine wpR_do rfl rfl (fun K hK => ?_)) | (refine wpR_doG rfl rfl rfl rfl rfl (fun K hK => ?_)) | (refine wpR_last rfl rfl (fun K hK => ?_)) | (refine wpR_nil ?_)) | ((with_reducible refine wpR_go ?_ ?_); (focus (show Grew _ _; repeat (first | (with_reducible exact Grew.refl _) | (with_reducible assumption) | (with_reducible exact Grew.same_o) | (with_reducible exact Grew.app_o) | (with_reducible refine Grew.ext ?_ _ _) | (with_reducible refine Grew.alloc ?_ _) | ((with_reducible refine Grew.setCell ?_ ?_ _); rotate_left; (focus (dsimp only; first | omega | (simp only [size_ext, World.size_alloc, Array.size_append]; omega)))) | (with_reducible refine Grew.drewN ?_ _) | (with_reducible refine Grew.drew ?_))))) | ((with_reducible refine upon_id ?_); refine upon_fop rfl (by assumption) (by assumption) ?_; intro rr nn hr) | (go_at_call 180; ((with_reducible refine (hEk b _ hbf).mono ?_); rintro e w1 ⟨rfl, rfl⟩)))
                    refine name_any (fun V2 hV2 => ?_)
                    have gV2 : Grew V1 V2 := by rw [← hV2]; (show Grew _ _; (try simp only [← Array.append_assoc]); repeat (first | (with_reducible exact Grew.same_o) | (with_reducible exact Grew.refl _) | (with_reducible assumption) | (with_reducible refine Grew.alloc ?_ _) | (with_reducible refine Grew.app_r ?_) | ((with_reducible refine Grew.setCell ?_ ?_ _); rotate_left; (focus (dsimp only; first | omega | (simp only [size_ext, World.size_alloc, Array.size_append]; omega)))) | (with_reducible refine Grew.ext ?_ _ _) | (with_reducible refine Grew.drewN ?_ _) | (with_reducible refine Grew.drew ?_)))
                    have cV := (gV2.cell kV).trans cV
                    have kV : bl < V2.heap.size := Nat.lt_of_lt_of_le kV gV2.below.size
                    clear hV2
                    refine wp_region_R (Grew V2) [] [(0,0), (0,2), (0,3), (0,4), (0,5), (1,1), (0,6), (0,7), (0,8)] (by kernel_rfl) (by kernel_rfl) (fun _ _ _ _ h _ => h) (by first | exact ⟨_, _, ext_drew⟩ | exact ⟨_, _, drew_ext0⟩ | (show Grew _ _; repeat (first | (with_reducible exact Grew.refl _) | (with_reducible assumption) | (with_reducible exact Grew.same_o) | (with_reducible exact Grew.app_o) | (with_reducible refine Grew.ext ?_ _ _) | (with_reducible refine Grew.alloc ?_ _) | ((with_reducible refine Grew.setCell ?_ ?_ _); rotate_left; (focus (dsimp only; first | omega | (simp only [size_ext, World.size_alloc, Array.size_append]; omega)))) | (with_reducible refine Grew.drewN ?_ _) | (with_reducible refine Grew.drew ?_)))) ?_
                    go_wp2_with (first | ((with_reducible refine wpR_id ?_); first | (refine wpR_take (v := ?_) rfl rfl ?_ ?_; rotate_left; (focus (rintro w' ⟨o', n', rfl⟩; go_simp; try with_reducible rfl)); simp only [Act.put, List.setIfInBounds_toArray, List.set_cons_zero, List.set_cons_succ]) | (refine wpR_pure (v := ?_) rfl rfl ?_ ?_; rotate_left; (focus (intro w'; go_simp; try with_reducible rfl)); simp only [Act.put, List.setIfInBounds_toArray, List.set_cons_zero, List.set_cons_succ]) | (refine wpR_takeG (v := ?_) rfl rfl rfl rfl rfl ?_ ?_; rotate_left; (focus (rintro w' ⟨o', n', rfl⟩; go_simp; try with_reducible rfl)); simp only [Act.put, List.setIfInBounds_toArray, List.set_cons_zero, List.set_cons_succ]) | (refine wpR_skip rfl rfl rfl rfl rfl rfl ?_; simp only [Act.put, List.setIfInBounds_toArray, List.set_cons_zero, List.set_cons_succ]) | (refine wpR_skipU rfl rfl rfl rfl rfl ?_; simp only [Act.put, List.setIfInBounds_toArray, List.set_cons_zero, List.set_cons_succ]) | (refine wpR_do rfl rfl (fun K hK => ?_)) | (refine wpR_doG rfl rfl rfl rfl rfl (fun K hK => ?_)) | (refine wpR_last rfl rfl (fun K hK => ?_)) | (refine wpR_nil ?_)) | ((with_reducible refine wpR_go ?_ ?_); (focus (show Grew _ _; repeat (first | (with_reducible exact Grew.refl _) | (with_reducible assumption) | (with_reducible exact Grew.same_o) | (with_reducible exact Grew.app_o) | (with_reducible refine Grew.ext ?_ _ _) | (with_reducible refine Grew.alloc ?_ _) | ((with_reducible refine Grew.setCell ?_ ?_ _); rotate_left; (focus (dsimp only; first | omega | (simp only [size_ext, World.size_alloc, Array.size_append]; omega)))) | (with_reducible refine Grew.drewN ?_ _) | (with_reducible refine Grew.drew ?_))))) | ((with_reducible refine upon_id ?_); refine upon_fop rfl (by assumption) (by assumption) ?_; intro rr nn hr) | (go_at_call 180; ((with_reducible refine (hEk b _ hbf).mono ?_); rintro e w1 ⟨rfl, rfl⟩)))
                    go_roundw
                    case rel => exact ⟨k + 1, hkl, by go_num, Grew.trans gx (Grew.trans gV1 (Grew.trans gV2 (by (show Grew _ _; (try simp only [← Array.append_assoc]); repeat (first | (with_reducible exact Grew.same_o) | (with_reducible exact Grew.refl _) | (with_reducible assumption) | (with_reducible refine Grew.alloc ?_ _) | (with_reducible refine Grew.app_r ?_) | ((with_reducible refine Grew.setCell ?_ ?_ _); rotate_left; (focus (dsimp only; first | omega | (simp only [size_ext, World.size_alloc, Array.size_append]; omega)))) | (with_reducible refine Grew.ext ?_ _ _) | (with_reducible refine Grew.drewN ?_ _) | (with_reducible refine Grew.drew ?_)))))), by rw [HN.out]; rfl, by rw [HN.out]; rfl⟩
                    case measure => simp [intOf]; omega
                  · have hd : decide (c0 < F + z) = false := by simpa using hlt2
                    rw [show max c0 (F + z) = c0 by omega] at hn
                    have HN := hid hn
                    clear hn hb hq hF hz hcc hcz0 hEx hzero
                    go_upto_region 23 with (first | (go_at_call 72; ((with_reducible refine (hAk _ (by (show Grew _ _; (try simp only [← Array.append_assoc]); repeat (first | (with_reducible exact Grew.same_o) | (with_reducible exact Grew.refl _) | (with_reducible assumption) | (with_reducible refine Grew.alloc ?_ _) | (with_reducible refine Grew.app_r ?_) | ((with_reducible refine Grew.setCell ?_ ?_ _); rotate_left; (focus (dsimp only; first | omega | (simp only [size_ext, World.size_alloc, Array.size_append]; omega)))) | (with_reducible refine Grew.ext ?_ _ _) | (with_reducible refine Grew.drewN ?_ _) | (with_reducible refine Grew.drew ?_))))).mono ?_); rintro e w1 ⟨b, rfl, hbf, o1, n1, rfl⟩)))
                    have hzb := hzk b hbf
                    refine name_any (fun V1 hV1 => ?_)
                    have gV1 : Grew wr V1 := by rw [← hV1]; (show Grew _ _; (try simp only [← Array.append_assoc]); repeat (first | (with_reducible exact Grew.same_o) | (with_reducible exact Grew.refl _) | (with_reducible assumption) | (with_reducible refine Grew.alloc ?_ _) | (with_reducible refine Grew.app_r ?_) | ((with_reducible refine Grew.setCell ?_ ?_ _); rotate_left; (focus (dsimp only; first | omega | (simp only [size_ext, World.size_alloc, Array.size_append]; omega)))) | (with_reducible refine Grew.ext ?_ _ _) | (with_reducible refine Grew.drewN ?_ _) | (with_reducible refine Grew.drew ?_)))
                    have cV := (gV1.cell kbl).trans hcz
                    have kV : bl < V1.heap.size := Nat.lt_of_lt_of_le kbl gV1.below.size
                    clear hV1
                    refine wp_region_R (Grew V1) [] [(0,0), (0,1), (0,2), (0,3), (0,4), (0,5), (0,6), (0,8), (0,9), (0,10), (0,11), (0,13), (1,7), (0,12), (0,14), (0,15), (0,16)] (by kernel_rfl) (by kernel_rfl) (fun _ _ _ _ h _ => h) (by first | exact ⟨_, _, ext_drew⟩ | exact ⟨_, _, drew_ext0⟩ | (show Grew _ _; repeat (first | (with_reducible exact Grew.refl _) | (with_reducible assumption) | (with_reducible exact Grew.same_o) | (with_reducible exact Grew.app_o) | (with_reducible refine Grew.ext ?_ _ _) | (with_reducible refine Grew.alloc ?_ _) | ((with_reducible refine Grew.setCell ?_ ?_ _); rotate_left; (focus (dsimp only; first | omega | (simp only [size_ext, World.size_alloc, Array.size_append]; omega)))) | (with_reducible refine Grew.drewN ?_ _) | (with_reducible refine Grew.drew ?_)))) ?_
                    go_wp2_with (first | ((with_reducible refine wpR_id ?_); first | (refine wpR_take (v := ?_) rfl rfl ?_ ?_; rotate_left; (focus (rintro w' ⟨o', n', rfl⟩; go_simp; try with_reducible rfl)); simp only [Act.put, List.setIfInBounds_toArray, List.set_cons_zero, List.set_cons_succ]) | (refine wpR_pure (v := ?_) rfl rfl ?_ ?_; rotate_left; (focus (intro w'; go_simp; try with_reducible rfl)); simp only [Act.put, List.setIfInBounds_toArray, List.set_cons_zero, List.set_cons_succ]) | (refine wpR_takeG (v := ?_) rfl rfl rfl rfl rfl ?_ ?_; rotate_left; (focus (rintro w' ⟨o', n', rfl⟩; go_simp; try with_reducible rfl)); simp only [Act.put, List.setIfInBounds_toArray, List.set_cons_zero, List.set_cons_succ]) | (refine wpR_skip rfl rfl rfl rfl rfl rfl ?_; simp only [Act.put, List.setIfInBounds_toArray, List.set_cons_zero, List.set_cons_succ]) | (refine wpR_skipU rfl rfl rfl rfl rfl ?_; simp only [Act.put, List.setIfInBounds_toArray, List.set_cons_zero, List.set_cons_succ]) | (refine wpR_do rfl rfl (fun K hK => ?_)) | (refine wpR_doG rfl rfl rfl rfl rfl (fun K hK => ?_)) | (refine wpR_last rfl rfl (fun K hK => ?_)) | (refine wpR_nil ?_)) | ((with_reducible refine wpR_go ?_ ?_); (focus (show Grew _ _; repeat (first | (with_reducible exact Grew.refl _) | (with_reducible assumption) | (with_reducible exact Grew.same_o) | (with_reducible exact Grew.app_o) | (with_reducible refine Grew.ext ?_ _ _) | (with_reducible refine Grew.alloc ?_ _) | ((with_reducible refine Grew.setCell ?_ ?_ _); rotate_left; (focus (dsimp only; first | omega | (simp only [size_ext, World.size_alloc, Array.size_append]; omega)))) | (with_reducible refine Grew.drewN ?_ _) | (with_reducible refine Grew.drew ?_))))) | ((with_reducible refine upon_id ?_); refine upon_fop rfl (by assumption) (by assumption) ?_; intro rr nn hr) | (go_at_call 180; ((with_reducible refine (hEk b _ hbf).mono ?_); rintro e w1 ⟨rfl, rfl⟩)))
                    go_roundw
                    case rel => exact ⟨k + 1, hkl, by go_num, Grew.trans gx (Grew.trans gV1 (by (show Grew _ _; (try simp only [← Array.append_assoc]); repeat (first | (with_reducible exact Grew.same_o) | (with_reducible exact Grew.refl _) | (with_reducible assumption) | (with_reducible refine Grew.alloc ?_ _) | (with_reducible refine Grew.app_r ?_) | ((with_reducible refine Grew.setCell ?_ ?_ _); rotate_left; (focus (dsimp only; first | omega | (simp only [size_ext, World.size_alloc, Array.size_append]; omega)))) | (with_reducible refine Grew.ext ?_ _ _) | (with_reducible refine Grew.drewN ?_ _) | (with_reducible refine Grew.drew ?_))))), by rw [HN.out]; first | rfl | done, by rw [HN.out]; first | rfl | done⟩
                    case measure => simp [intOf]; omega
              · rw [hq] at hzk
                have hn := best_zero (X := fun i => M i j) (e := fun i => fexp (M i j) + rs.getD i 0) hq
                have HN := hid hn
                clear hn hq hF hz hcc hcz0 hEx hzero
                go_upto_region 23 with (first | (go_at_call 72; ((with_reducible refine (hAk _ (by (show Grew _ _; (try simp only [← Array.append_assoc]); repeat (first | (with_reducible exact Grew.same_o) | (with_reducible exact Grew.refl _) | (with_reducible assumption) | (with_reducible refine Grew.alloc ?_ _) | (with_reducible refine Grew.app_r ?_) | ((with_reducible refine Grew.setCell ?_ ?_ _); rotate_left; (focus (dsimp only; first | omega | (simp only [size_ext, World.size_alloc, Array.size_append]; omega)))) | (with_reducible refine Grew.ext ?_ _ _) | (with_reducible refine Grew.drewN ?_ _) | (with_reducible refine Grew.drew ?_))))).mono ?_); rintro e w1 ⟨b, rfl, hbf, o1, n1, rfl⟩)))
                have hzb := hzk b hbf
                refine name_any (fun V1 hV1 => ?_)
                have gV1 : Grew wr V1 := by rw [← hV1]; (show Grew _ _; (try simp only [← Array.append_assoc]); repeat (first | (with_reducible exact Grew.same_o) | (with_reducible exact Grew.refl _) | (with_reducible assumption) | (with_reducible refine Grew.alloc ?_ _) | (with_reducible refine Grew.app_r ?_) | ((with_reducible refine Grew.setCell ?_ ?_ _); rotate_left; (focus (dsimp only; first | omega | (simp only [size_ext, World.size_alloc, Array.size_append]; omega)))) | (with_reducible refine Grew.ext ?_ _ _) | (with_reducible refine Grew.drewN ?_ _) | (with_reducible refine Grew.drew ?_)))
                have cV := (gV1.cell kbl).trans hcz
                have kV : bl < V1.heap.size := Nat.lt_of_lt_of_le kbl gV1.below.size
                clear hV1
                refine wp_region_R (Grew V1) [] [(0,0), (0,1), (0,2), (0,3), (0,4), (0,5), (0,6), (0,8), (0,9), (0,10), (0,11), (0,13), (1,7), (0,12), (0,14), (0,15), (0,16)] (by kernel_rfl) (by kernel_rfl) (fun _ _ _ _ h _ => h) (by first | exact ⟨_, _, ext_drew⟩ | exact ⟨_, _, drew_ext0⟩ | (show Grew _ _; repeat (first | (with_reducible exact Grew.refl _) | (with_reducible assumption) | (with_reducible exact Grew.same_o) | (with_reducible exact Grew.app_o) | (with_reducible refine Grew.ext ?_ _ _) | (with_reducible refine Grew.alloc ?_ _) | ((with_reducible refine Grew.setCell ?_ ?_ _); rotate_left; (focus (dsimp only; first | omega | (simp only [size_ext, World.size_alloc, Array.size_append]; omega)))) | (with_reducible refine Grew.drewN ?_ _) | (with_reducible refine Grew.drew ?_)))) ?_
                go_wp2_with (first | ((with_reducible refine wpR_id ?_); first | (refine wpR_take (v := ?_) rfl rfl ?_ ?_; rotate_left; (focus (rintro w' ⟨o', n', rfl⟩; go_simp; try with_reducible rfl)); simp only [Act.put, List.setIfInBounds_toArray, List.set_cons_zero, List.set_cons_succ]) | (refine wpR_pure (v := ?_) rfl rfl ?_ ?_; rotate_left; (focus (intro w'; go_simp; try with_reducible rfl)); simp only [Act.put, List.setIfInBounds_toArray, List.set_cons_zero, List.set_cons_succ]) | (refine wpR_takeG (v := ?_) rfl rfl rfl rfl rfl ?_ ?_; rotate_left; (focus (rintro w' ⟨o', n', rfl⟩; go_simp; try with_reducible rfl)); simp only [Act.put, List.setIfInBounds_toArray, List.set_cons_zero, List.set_cons_succ]) | (refine wpR_skip rfl rfl rfl rfl rfl rfl ?_; simp only [Act.put, List.setIfInBounds_toArray, List.set_cons_zero, List.set_cons_succ]) | (refine wpR_skipU rfl rfl rfl rfl rfl ?_; simp only [Act.put, List.setIfInBounds_toArray, List.set_cons_zero, List.set_cons_succ]) | (refine wpR_do rfl rfl (fun K hK => ?_)) | (refine wpR_doG rfl rfl rfl rfl rfl (fun K hK => ?_)) | (refine wpR_last rfl rfl (fun K hK => ?_)) | (refine wpR_nil ?_)) | ((with_reducible refine wpR_go ?_ ?_); (focus (show Grew _ _; repeat (first | (with_reducible exact Grew.refl _) | (with_reducible assumption) | (with_reducible exact Grew.same_o) | (with_reducible exact Grew.app_o) | (with_reducible refine Grew.ext ?_ _ _) | (with_reducible refine Grew.alloc ?_ _) | ((with_reducible refine Grew.setCell ?_ ?_ _); rotate_left; (focus (dsimp only; first | omega | (simp only [size_ext, World.size_alloc, Array.size_append]; omega)))) | (with_reducible refine Grew.drewN ?_ _) | (with_reducible refine Grew.drew ?_))))) | ((with_reducible refine upon_id ?_); refine upon_fop rfl (by assumption) (by assumption) ?_; intro rr nn hr) | (go_at_call 180; ((with_reducible refine (hEk b _ hbf).mono ?_); rintro e w1 ⟨rfl, rfl⟩)))
                go_roundw
                case rel => exact ⟨k + 1, hkl, by go_num, Grew.trans gx (Grew.trans gV1 (by (show Grew _ _; (try simp only [← Array.append_assoc]); repeat (first | (with_reducible exact Grew.same_o) | (with_reducible exact Grew.refl _) | (with_reducible assumption) | (with_reducible refine Grew.alloc ?_ _) | (with_reducible refine Grew.app_r ?_) | ((with_reducible refine Grew.setCell ?_ ?_ _); rotate_left; (focus (dsimp only; first | omega | (simp only [size_ext, World.size_alloc, Array.size_append]; omega)))) | (with_reducible refine Grew.ext ?_ _ _) | (with_reducible refine Grew.drewN ?_ _) | (with_reducible refine Grew.drew ?_))))), by rw [HN.out]; first | rfl | done, by rw [HN.out]; first | rfl | done⟩
                case measure => simp [intOf]; omega
            · have e : k = i := by omega
              have hB : colB M i rs j = bestTo (fun i => M i j) (fun i => fexp (M i j) + rs.getD i 0) k := by rw [e]; rfl
              rw [← hB]
              clear hEx hzero
              cases hq : colB M i rs j with
              | none =>
                have rw1 : IntKind.i64.wrap ((i : Int) + j) = (i : Int) + j := IntWalk.i64_in _ (by omega)
                have rw2 : IntKind.i64.wrap ((i : Int) + j + 1) = (i : Int) + j + 1 := IntWalk.i64_in _ (by omega)
                have hof : FactsOut M i C ((i : Int) + j + 1) [] [] := .inr (.inl ⟨HALL.out, j, hlt, rfl, by rw [← HRS.out]; exact hq, by rw [← HRS.out]; exact hall, rfl, rfl⟩)
                have HOF := hid hof
                clear hq hall hof hB
                subst e
                go_upto_region 26 with fail
                refine wp_region_R (Grew wr) [] [(0,0), (0,1), (0,2), (0,3), (0,4), (0,5), (0,6), (0,7)] (by kernel_rfl) (by kernel_rfl) (fun _ _ _ _ h _ => h) (by first | exact ⟨_, _, ext_drew⟩ | exact ⟨_, _, drew_ext0⟩ | (show Grew _ _; repeat (first | (with_reducible exact Grew.refl _) | (with_reducible assumption) | (with_reducible exact Grew.same_o) | (with_reducible exact Grew.app_o) | (with_reducible refine Grew.ext ?_ _ _) | (with_reducible refine Grew.alloc ?_ _) | ((with_reducible refine Grew.setCell ?_ ?_ _); rotate_left; (focus (dsimp only; first | omega | (simp only [size_ext, World.size_alloc, Array.size_append]; omega)))) | (with_reducible refine Grew.drewN ?_ _) | (with_reducible refine Grew.drew ?_)))) ?_
                go_wp2_with (first | ((with_reducible refine wpR_id ?_); first | (refine wpR_take (v := ?_) rfl rfl ?_ ?_; rotate_left; (focus (rintro w' ⟨o', n', rfl⟩; go_simp; try with_reducible rfl)); simp only [Act.put, List.setIfInBounds_toArray, List.set_cons_zero, List.set_cons_succ]) | (refine wpR_pure (v := ?_) rfl rfl ?_ ?_; rotate_left; (focus (intro w'; go_simp; try with_reducible rfl)); simp only [Act.put, List.setIfInBounds_toArray, List.set_cons_zero, List.set_cons_succ]) | (refine wpR_takeG (v := ?_) rfl rfl rfl rfl rfl ?_ ?_; rotate_left; (focus (rintro w' ⟨o', n', rfl⟩; go_simp; try with_reducible rfl)); simp only [Act.put, List.setIfInBounds_toArray, List.set_cons_zero, List.set_cons_succ]) | (refine wpR_skip rfl rfl rfl rfl rfl rfl ?_; simp only [Act.put, List.setIfInBounds_toArray, List.set_cons_zero, List.set_cons_succ]) | (refine wpR_skipU rfl rfl rfl rfl rfl ?_; simp only [Act.put, List.setIfInBounds_toArray, List.set_cons_zero, List.set_cons_succ]) | (refine wpR_do rfl rfl (fun K hK => ?_)) | (refine wpR_doG rfl rfl rfl rfl rfl (fun K hK => ?_)) | (refine wpR_last rfl rfl (fun K hK => ?_)) | (refine wpR_nil ?_)) | ((with_reducible refine wpR_go ?_ ?_); (focus (show Grew _ _; repeat (first | (with_reducible exact Grew.refl _) | (with_reducible assumption) | (with_reducible exact Grew.same_o) | (with_reducible exact Grew.app_o) | (with_reducible refine Grew.ext ?_ _ _) | (with_reducible refine Grew.alloc ?_ _) | ((with_reducible refine Grew.setCell ?_ ?_ _); rotate_left; (focus (dsimp only; first | omega | (simp only [size_ext, World.size_alloc, Array.size_append]; omega)))) | (with_reducible refine Grew.drewN ?_ _) | (with_reducible refine Grew.drew ?_))))) | ((with_reducible refine upon_id ?_); refine upon_fop rfl (by assumption) (by assumption) ?_; intro rr nn hr))
                refine bodyPost_ret (v := .tuple #[.slice none 0 0, .slice none 0 0, .int .i64 ((k : Int) + j + 1)]) (by simp [results, Try.results103, go_sem, *]) rfl ?_
                exact ⟨_, _, _, [], [], rfl, HOF.out, is_nil _, is_nil _, Grew.trans gr (Grew.trans gx (by (show Grew _ _; (try simp only [← Array.append_assoc]); repeat (first | (with_reducible exact Grew.same_o) | (with_reducible exact Grew.refl _) | (with_reducible assumption) | (with_reducible refine Grew.alloc ?_ _) | (with_reducible refine Grew.app_r ?_) | ((with_reducible refine Grew.setCell ?_ ?_ _); rotate_left; (focus (dsimp only; first | omega | (simp only [size_ext, World.size_alloc, Array.size_append]; omega)))) | (with_reducible refine Grew.ext ?_ _ _) | (with_reducible refine Grew.drewN ?_ _) | (with_reducible refine Grew.drew ?_)))))⟩
              | some b =>
                have hbb := HCB.out j b hq
                have rw1 : IntKind.i64.wrap (-b) = -b := IntWalk.i64_in _ (by omega)
                have hsc := colsTo'_succ M i rs j
                rw [hq] at hsc
                have HSC := hid hsc
                have hall2 : ∀ k, k < j + 1 → colB M i rs k ≠ none := fun k hk => by
                  by_cases e : k = j
                  · subst e; rw [hq]; simp
                  · exact hall k (by omega)
                have HA := hid hall2
                clear hq hall hall2 hsc hB
                subst e
                have zx := gx.below.size
                go_wp2_with (first | (at_builtin; refine append1_k (z0 := .int .i64 0) iundK iinfoK rfl (W := w) (v := u6) (y := .int .i64 (-b)) (xs := (colsTo' M k rs j).map (Value.int .i64)) ?_ ?_ rfl lu _ _ rfl rfl rfl ?_ rfl ?_; (focus exact Grew.trans gr (Grew.trans gx (by (show Grew _ _; (try simp only [← Array.append_assoc]); repeat (first | (with_reducible exact Grew.same_o) | (with_reducible exact Grew.refl _) | (with_reducible assumption) | (with_reducible refine Grew.alloc ?_ _) | (with_reducible refine Grew.app_r ?_) | ((with_reducible refine Grew.setCell ?_ ?_ _); rotate_left; (focus (dsimp only; first | omega | (simp only [size_ext, World.size_alloc, Array.size_append]; omega)))) | (with_reducible refine Grew.ext ?_ _ _) | (with_reducible refine Grew.drewN ?_ _) | (with_reducible refine Grew.drew ?_)))))); (focus exact hu' _ (Grew.trans gx (by (show Grew _ _; (try simp only [← Array.append_assoc]); repeat (first | (with_reducible exact Grew.same_o) | (with_reducible exact Grew.refl _) | (with_reducible assumption) | (with_reducible refine Grew.alloc ?_ _) | (with_reducible refine Grew.app_r ?_) | ((with_reducible refine Grew.setCell ?_ ?_ _); rotate_left; (focus (dsimp only; first | omega | (simp only [size_ext, World.size_alloc, Array.size_append]; omega)))) | (with_reducible refine Grew.ext ?_ _ _) | (with_reducible refine Grew.drewN ?_ _) | (with_reducible refine Grew.drew ?_)))))); (focus (first | rfl | (simp only [size_ext, Array.size_append]; done) | (simp only [size_ext]; done))); intro v2 w2 gw2 zw2 hv2 hk2 hn2))
                have hownx := hown.grew gx
                have hk3 : ∀ q, q < wr.heap.size → u6.ownBlock ≠ some q → w2.heap[q]? = wr.heap[q]? := hk2
                go_roundw
                case rel =>
                  refine ⟨j + 1, by omega, by go_num, gw2, ?_, hownx.same (fun q hk => hk3 q (World.ownsRow.lt hownx q hk).2 (fun h => hap q h hk)), ?_, HA.out, fun q hk => ?_, fun q hk h2 => ?_⟩
                  · obtain ⟨e, he⟩ := B1.grew gx; exact ⟨e, (hk3 p1 lX (fun h => nu p1 h rfl)).trans he⟩
                  · rw [HSC.out]; simpa [OwnI, bestI] using hv2
                  · rcases hn2 q hk with h | h
                    · exact nu q h
                    · omega
                  · rcases hn2 q hk with h | h
                    · exact hap q h h2
                    · have := (World.ownsRow.lt hownx q h2).2; omega
                case measure => simp [intOf]; omega
        · have e : j = C := by omega
          subst e
          have hof : FactsOut M i j 0 rs (colsTo' M i rs j) := .inr (.inr ⟨HALL.out, fun k hk => by rw [← HRS.out]; exact hall k hk, rfl, HRS.out, by rw [HRS.out]⟩)
          have HOF := hid hof
          have hIu := hu.is (by rw [colsTo'_length]; omega)
          obtain ⟨au, lu2, cu, rfl⟩ := owns_shape hu
          clear hall hof hown hu
          go_wp2
          refine bodyPost_ret (v := .tuple #[.slice av i cv, .slice au lu2 cu, .int .i64 0]) (by simp [results, Try.results103, go_sem, *]) rfl ?_
          exact ⟨_, _, _, _, _, rfl, HOF.out, hIS, hIu, gr⟩
end Go.Proofs.Ytcmggfpcbijcjaa
end
section
/-
  Contract: view.Dense with its numbers written out; the example of layer 4.
-/
set_option linter.unusedSimpArgs false
set_option linter.unusedVariables false
open Go Go.RowKit Sedge
namespace Go.Proofs.Ytcmggfpcbijcjaa
/-- The list that Dense makes. -/
def denseTo (r c : Nat) (l : List Nat) (k : Nat) : List Nat := writes (List.replicate (r * c) 0) (fun k => k / c + k % c * r) (fun k => l.getD k 0) k
def denseL (r c : Nat) (l : List Nat) : List Nat := denseTo r c l (min l.length (r * c))
set_option maxRecDepth 100000 in
set_option maxHeartbeats 1000000 in
/-- view.Dense, of sizes within 64. -/
theorem dense_any (r c : Nat) (aL : Option Addr) (ls : List Nat) (w : World) (hL : FS w (.slice aL ls.length ls.length) ls) (hr : r ≤ 64) (hc : c ≤ 64) (hr1 : 1 ≤ r) (hc1 : 1 ≤ c) (hlen : ls.length = r * c) :
   Calls Try.prog 69 #[.int .i64 r, .int .i64 c, .slice aL ls.length ls.length] w (fun e w' => ∃ v, e = .returned (.agg #[v, .int .i64 0, .int .i64 r, .int .i64 c, .int .i64 r]) ∧ WS w' w.heap.size v (denseL r c ls) ∧ ∃ o n, w' = ext w o n) := by
  have hm : r * c ≤ 64 * 64 := Nat.mul_le_mul hr hc
  have h2 : IntKind.i64.wrap ((r : Int) * c) = (r : Int) * c := IntWalk.i64_in _ (by rw [← Int.natCast_mul]; omega)
  have hlL := hL.len
  have d1 : decide ((r : Int) < 0) = false := by simp
  have d2 : decide ((c : Int) < 0) = false := by simp
  have d3 : decide ((64 : Int) < (r : Int)) = false := by simp; omega
  have d4 : decide ((64 : Int) < (c : Int)) = false := by simp; omega
  have d5 : (ls.length : Int) = (r : Int) * c := by rw [hlen, Int.natCast_mul]
  have d6 : decide ((1 : Int) ≤ (r : Int)) = true := by simp; omega
  go_enter Try.func69, Try.ntmps69
  refine seq_stop ?_
  go_wp2
  refine stop_go (fun W hW => ?_)
  have s1 : w.heap.size < W.heap.size := by rw [hW]; simp only [World.size_alloc]; omega
  have b1 : ∀ i, W.cell? ⟨w.heap.size, i, none⟩ = (#[.slice none 0 0, .int .i64 0, .int .i64 0, .int .i64 0, .int .i64 0] : Array Value)[i]? := by intro i; rw [hW]; go_simp
  have f1 : ∀ i, W.frozen? ⟨w.heap.size, i, none⟩ = false := by intro i; rw [hW]; go_simp
  have g0 : Grew w W := by rw [hW]; exact (Grew.refl _).alloc _
  clear hW
  have hLW : FS W (.slice aL ls.length ls.length) ls := hL.grew g0
  go_wp2_with (at_make; refine make_f (L := (r : Int) * (c : Int)) finfo (Grew.refl W) _ _ rfl rfl (r * c) (Int.natCast_mul r c).symm rfl rfl (by omega) ?_; intro oo nn k hk ho; have hF := ho.made)
  refine name_any (fun V hV => ?_)
  have gV : Grew W V := by rw [← hV]; (show Grew _ _; repeat (first | (with_reducible exact Grew.refl _) | (with_reducible assumption) | (with_reducible exact Grew.same_o) | (with_reducible exact Grew.app_o) | (with_reducible refine Grew.ext ?_ _ _) | (with_reducible refine Grew.alloc ?_ _) | ((with_reducible refine Grew.setCell ?_ ?_ _); rotate_left; (focus (dsimp only; first | omega | (simp only [size_ext, World.size_alloc, Array.size_append]; omega)))) | (with_reducible refine Grew.drewN ?_ _) | (with_reducible refine Grew.drew ?_)))
  have sV := gV.below.size
  have k1 : w.heap.size < V.heap.size := by omega
  have k3 : W.heap.size + oo.size < V.heap.size := by rw [← hV]; simp only [World.size_alloc, size_ext]; omega
  have c1 : ∀ i, V.cell? ⟨w.heap.size, i, none⟩ = (#[.slice none 0 0, .int .i64 0, .int .i64 0, .int .i64 0, .int .i64 0] : Array Value)[i]? := fun i => (gV.cell s1).trans (b1 i)
  have z1 : ∀ i, V.frozen? ⟨w.heap.size, i, none⟩ = false := fun i => (gV.frozen s1).trans (f1 i)
  have c3 : ∀ i, V.cell? ⟨W.heap.size + oo.size, i, none⟩ = (#[.slice (some ⟨k, 0, none⟩) (r * c) (r * c), .int .i64 0, .int .i64 r, .int .i64 c, .int .i64 r] : Array Value)[i]? := by subst hV; intro i; go_simp
  have hFV : FW V k (List.replicate (r * c) 0) := by rw [← hV]; (repeat (first | (with_reducible assumption) | ((with_reducible refine FW.ext_set ?_ ?_ ?_ _); rotate_left; (focus (simp only [size_setCell', World.size_alloc, size_ext, size_upd]; omega)); (focus (dsimp only; omega))) | ((with_reducible refine FW.setCell_ne ?_ ?_ _); rotate_left; (focus (dsimp only; omega))) | (with_reducible refine FW.ext ?_ _ _) | (with_reducible refine FW.alloc ?_ _)))
  have hLV : FS V (.slice aL ls.length ls.length) ls := hLW.grew gV
  have gl := hFV.lt
  have q1 : w.heap.size ≠ k := by omega
  have q3 : W.heap.size + oo.size ≠ k := by have := hF.lt; simp only [size_ext] at this; omega
  have HL := hid hlen
  clear hV b1 f1 hL ho
  go_loopw [43] (fun s wr => ∃ (i : Nat) (cs : Array Value) (o : Array Obj) (n : Nat), i ≤ r * c ∧ s = .int .i64 i ∧ wr = ext (upd V k cs) o n ∧ CF cs (denseTo r c ls i)) (fun s _ => r * c - (intOf s).toNat)
  case atStart =>
    obtain ⟨cs, h1, h2⟩ := hFV.self
    exact ⟨0, cs, #[], _, Nat.zero_le _, rfl, by rw [h1]; exact ext_zero.symm, h2⟩
  case round =>
    obtain ⟨i, cs, o2, n2, hi, rfl, hwr, hcs⟩ := hrel
    subst hwr
    by_cases hlt : i < r * c
    · have e1 : i / c < r := by rw [Nat.div_lt_iff_lt_mul (by omega)]; exact hlt
      have e2 : i % c < c := Nat.mod_lt _ (by omega)
      have e3 : i % c * r + r ≤ c * r := by have := Nat.mul_le_mul_right r e2; rw [Nat.succ_mul] at this; exact this
      have e4 : c * r = r * c := Nat.mul_comm c r
      obtain ⟨p, hp⟩ : ∃ p : Nat, p = i / c := ⟨_, rfl⟩
      obtain ⟨q, hq⟩ : ∃ q : Nat, q = i % c := ⟨_, rfl⟩
      rw [← hp] at e1
      rw [← hq] at e2 e3
      have hq1 : (i : Int).tdiv c = (p : Int) := by rw [hp]; rfl
      have hq2 : (i : Int).tmod c = (q : Int) := by rw [hq]; rfl
      have hq3 : (i : Int) / c = (p : Int) := by rw [hp]; rfl
      have hq4 : (i : Int) % c = (q : Int) := by rw [hq]; rfl
      have m0 : (q : Int) * r = ((q * r : Nat) : Int) := (Int.natCast_mul q r).symm
      have w1 : IntKind.i64.wrap ((q : Int) * r) = (q : Int) * r := IntWalk.i64_in _ (by omega)
      have w2 : IntKind.i64.wrap ((p : Int) + (q : Int) * r) = (p : Int) + (q : Int) * r := IntWalk.i64_in _ (by omega)
      have n0 : ((p : Int) + (q : Int) * r).toNat = p + q * r := by omega
      have n1 : 0 ≤ (p : Int) + (q : Int) * r := by omega
      have n3 : (p : Int) + (q : Int) * r < ((r * c : Nat) : Int) := by omega
      have n2' : (c : Int) ≠ 0 := by omega
      have n6 : (p : Int) + (q : Int) * r < (r : Int) * c := by rw [← Int.natCast_mul r c]; exact n3
      have n8 : p + q * r < r * c := by omega
      have n5 : ¬ c = 0 := by omega
      have w0 : IntKind.i64.wrap (p : Int) = p := IntWalk.i64_in _ (by omega)
      have w3 : IntKind.i64.wrap (q : Int) = q := IntWalk.i64_in _ (by omega)
      have n4 : ((c : Int) == 0) = false := by simp; omega
      have fz : ∀ i, V.frozen? ⟨k, i, none⟩ = false := hFV.notFrozen
      have hlen2 : (denseTo r c ls i).length = r * c := by simp [denseTo]
      obtain ⟨r0, hr0, _⟩ := (hFV.mk' hcs o2 n2).get (i := p + q * r) (by rw [hlen2]; omega)
      have hr1 := (cell_ext (by simpa using gl)).symm.trans hr0
      obtain ⟨blk, o, rfl, hblk, hc⟩ := hLW.at.2 (by omega)
      obtain ⟨b, hb0, hf⟩ := hc i (by omega)
      have hb := (gV.cell hblk).trans hb0
      have qb : blk ≠ k := by omega
      have kb : blk < V.heap.size := by omega
      have Hp := hid hp
      have Hq := hid hq
      clear hb0 hc hr0 m0 hp hq
      go_wp2
      refine wp_region_R (Over V k) [] [(0,0), (0,1), (0,2), (0,3), (0,4), (0,5), (0,6), (0,7), (0,8), (0,9), (0,10), (0,11), (0,12), (0,13), (1,14)] (by kernel_rfl) (by kernel_rfl) (fun _ _ _ _ h _ => h) ⟨_, _, _, ext_drew⟩ ?_
      go_wp2_with (first | ((with_reducible refine wpR_id ?_); first | (refine wpR_take (v := ?_) rfl rfl ?_ ?_; rotate_left; (focus (rintro w' ⟨cs', o', n', rfl⟩; go_simp; try with_reducible rfl)); simp only [Act.put, List.setIfInBounds_toArray, List.set_cons_zero, List.set_cons_succ]) | (refine wpR_pure (v := ?_) rfl rfl ?_ ?_; rotate_left; (focus (intro w'; go_simp; try with_reducible rfl)); simp only [Act.put, List.setIfInBounds_toArray, List.set_cons_zero, List.set_cons_succ]) | (refine wpR_takeG (v := ?_) rfl rfl rfl rfl rfl ?_ ?_; rotate_left; (focus (rintro w' ⟨cs', o', n', rfl⟩; go_simp; try with_reducible rfl)); simp only [Act.put, List.setIfInBounds_toArray, List.set_cons_zero, List.set_cons_succ]) | (refine wpR_skip rfl rfl rfl rfl rfl rfl ?_; simp only [Act.put, List.setIfInBounds_toArray, List.set_cons_zero, List.set_cons_succ]) | (refine wpR_skipU rfl rfl rfl rfl rfl ?_; simp only [Act.put, List.setIfInBounds_toArray, List.set_cons_zero, List.set_cons_succ]) | (refine wpR_do rfl rfl (fun K hK => ?_)) | (refine wpR_doG rfl rfl rfl rfl rfl (fun K hK => ?_)) | (refine wpR_last rfl rfl (fun K hK => ?_)) | (refine wpR_nil ?_)) | ((with_reducible refine wpR_go ?_ ?_); (focus exact ⟨_, _, _, rfl⟩)) | ((with_reducible refine upon_id ?_); refine upon_fop rfl (by assumption) (by assumption) ?_; intro rr nn hr))
      go_roundw
      case rel =>
        refine ⟨i + 1, _, _, _, by omega, by go_num, rfl, ?_⟩
        have h8 := hcs.set (i := p + q * r) hf
        unfold denseTo at h8 ⊢; unfold writes
        rw [← Hp.out, ← Hq.out]; exact h8
      case measure => simp [intOf]; omega
    · have e : i = r * c := by omega
      subst e
      have hfw : FW (ext (upd V k cs) o2 n2) k (denseL r c ls) := by unfold denseL; rw [HL.out, Nat.min_self]; exact hFV.mk' hcs _ _
      have gu : Grew w (upd V k cs) := (g0.trans gV).upd (by omega) cs
      go_wp2
      refine bodyPost_ret (v := .agg #[.slice (some ⟨k, 0, none⟩) (r * c) (r * c), .int .i64 0, .int .i64 r, .int .i64 c, .int .i64 r]) (by simp [results, Try.results69, go_sem, *]) rfl ?_
      exact ⟨_, rfl, ⟨k, r * c, by simp [denseL, denseTo], by omega, by (repeat (first | (with_reducible assumption) | ((with_reducible refine FW.ext_set ?_ ?_ ?_ _); rotate_left; (focus (simp only [size_setCell', World.size_alloc, size_ext, size_upd]; omega)); (focus (dsimp only; omega))) | ((with_reducible refine FW.setCell_ne ?_ ?_ _); rotate_left; (focus (dsimp only; omega))) | (with_reducible refine FW.ext ?_ _ _) | (with_reducible refine FW.alloc ?_ _))), by simp [denseL, denseTo]; omega⟩, by (show Grew _ _; repeat (first | (with_reducible exact Grew.refl _) | (with_reducible assumption) | (with_reducible exact Grew.same_o) | (with_reducible exact Grew.app_o) | (with_reducible refine Grew.ext ?_ _ _) | (with_reducible refine Grew.alloc ?_ _) | ((with_reducible refine Grew.setCell ?_ ?_ _); rotate_left; (focus (dsimp only; first | omega | (simp only [size_ext, World.size_alloc, Array.size_append]; omega)))) | (with_reducible refine Grew.drewN ?_ _) | (with_reducible refine Grew.drew ?_)))⟩
end Go.Proofs.Ytcmggfpcbijcjaa
end
section
/-
  Contracts: the law's ints; its example.
-/
set_option linter.unusedSimpArgs false
set_option linter.unusedVariables false
open Go Go.RowKit Sedge
namespace Go.Proofs.Ytcmggfpcbijcjaa
theorem ints_take {xa xb : List Int} (k : Nat) (h : k < xa.length) (hl : xa.length = xb.length) (he : xa.getD k 0 = xb.getD k 0) (ht : xa.take k = xb.take k) : xa.take (k + 1) = xb.take (k + 1) := by
  rw [List.take_add_one, List.take_add_one, ht]
  congr 1
  rw [List.getD_eq_getElem?_getD, List.getD_eq_getElem?_getD, List.getElem?_eq_getElem h, List.getElem?_eq_getElem (by omega)] at he
  rw [List.getElem?_eq_getElem h, List.getElem?_eq_getElem (by omega)]
  simpa using he
set_option maxRecDepth 100000 in
set_option maxHeartbeats 1000000 in
/-- The law's ints. -/
theorem ints_any (VA VB : Value) (xa xb : List Int) (w : World) (hA : IS .i64 w VA xa) (hB : IS .i64 w VB xb) (hla : xa.length ≤ 1000000) (hlb : xb.length ≤ 1000000) :
    Calls Try.prog 104 #[VA, VB] w (fun e w' => e = .returned (.bool (decide (xa = xb))) ∧ ∃ o n, w' = ext w o n) := by
  obtain ⟨aA, cA, rfl⟩ := hA.shape
  obtain ⟨aB, cB, rfl⟩ := hB.shape
  by_cases hl : xa.length = xb.length
  · have d1 : ((xa.length : Int) != xb.length) = false := by simp [hl]
    have HA := hid hA
    have HB := hid hB
    have HL := hid hl
    clear hA hB hl
    go_enter Try.func104, Try.ntmps104
    go_wp2
    go_loopw [5] (fun c wr => ∃ (k : Nat), k ≤ xa.length ∧ c = .int .i64 k ∧ Grew w wr ∧ xa.take k = xb.take k) (fun c _ => xa.length - (intOf c).toNat)
    case atStart => exact ⟨0, Nat.zero_le _, rfl, Grew.refl _, rfl⟩
    case round =>
      obtain ⟨k, hk, rfl, gr, ht⟩ := hrel
      have HT := hid ht
      clear ht
      by_cases hlt : k < xa.length
      · obtain ⟨ba, oa, ea, ka, hca⟩ := HA.out.at.2 (by omega)
        obtain ⟨bb, ob, eb, kb, hcb⟩ := HB.out.at.2 (by have := HL.out; omega)
        subst ea eb
        have ca := hca k hlt
        have cb := hcb k (by have := HL.out; omega)
        obtain ⟨x, hx⟩ : ∃ x, x = xa.getD k 0 := ⟨_, rfl⟩
        obtain ⟨y, hy⟩ : ∃ y, y = xb.getD k 0 := ⟨_, rfl⟩
        rw [← hx] at ca
        rw [← hy] at cb
        have ca1 := (gr.cell ka).trans ca
        have cb1 := (gr.cell kb).trans cb
        have zr := gr.below.size
        have ka1 : ba < wr.heap.size := by omega
        have kb1 : bb < wr.heap.size := by omega
        have hkb : k < xb.length := by have := HL.out; omega
        have HXY := hid (And.intro hx hy)
        clear hca hcb ca cb hx hy
        by_cases hxy : x = y
        · have d2 : (x != y) = false := by simp [hxy]
          have HE := hid hxy
          clear hxy
          go_wp2
          refine wp_region_R (Grew wr) [] [(0,0), (0,1), (0,2), (0,3), (0,4), (0,5), (0,6), (0,7), (0,8)] (by kernel_rfl) (by kernel_rfl) (fun _ _ _ _ h _ => h) (by first | exact ⟨_, _, ext_drew⟩ | exact ⟨_, _, drew_ext0⟩ | (show Grew _ _; repeat (first | (with_reducible exact Grew.refl _) | (with_reducible assumption) | (with_reducible exact Grew.same_o) | (with_reducible exact Grew.app_o) | (with_reducible refine Grew.ext ?_ _ _) | (with_reducible refine Grew.alloc ?_ _) | ((with_reducible refine Grew.setCell ?_ ?_ _); rotate_left; (focus (dsimp only; first | omega | (simp only [size_ext, World.size_alloc, Array.size_append]; omega)))) | (with_reducible refine Grew.drewN ?_ _) | (with_reducible refine Grew.drew ?_)))) ?_
          go_wp2_with (first | ((with_reducible refine wpR_id ?_); first | (refine wpR_take (v := ?_) rfl rfl ?_ ?_; rotate_left; (focus (rintro w' ⟨o', n', rfl⟩; go_simp; try with_reducible rfl)); simp only [Act.put, List.setIfInBounds_toArray, List.set_cons_zero, List.set_cons_succ]) | (refine wpR_pure (v := ?_) rfl rfl ?_ ?_; rotate_left; (focus (intro w'; go_simp; try with_reducible rfl)); simp only [Act.put, List.setIfInBounds_toArray, List.set_cons_zero, List.set_cons_succ]) | (refine wpR_takeG (v := ?_) rfl rfl rfl rfl rfl ?_ ?_; rotate_left; (focus (rintro w' ⟨o', n', rfl⟩; go_simp; try with_reducible rfl)); simp only [Act.put, List.setIfInBounds_toArray, List.set_cons_zero, List.set_cons_succ]) | (refine wpR_skip rfl rfl rfl rfl rfl rfl ?_; simp only [Act.put, List.setIfInBounds_toArray, List.set_cons_zero, List.set_cons_succ]) | (refine wpR_skipU rfl rfl rfl rfl rfl ?_; simp only [Act.put, List.setIfInBounds_toArray, List.set_cons_zero, List.set_cons_succ]) | (refine wpR_do rfl rfl (fun K hK => ?_)) | (refine wpR_doG rfl rfl rfl rfl rfl (fun K hK => ?_)) | (refine wpR_last rfl rfl (fun K hK => ?_)) | (refine wpR_nil ?_)) | ((with_reducible refine wpR_go ?_ ?_); (focus (show Grew _ _; repeat (first | (with_reducible exact Grew.refl _) | (with_reducible assumption) | (with_reducible exact Grew.same_o) | (with_reducible exact Grew.app_o) | (with_reducible refine Grew.ext ?_ _ _) | (with_reducible refine Grew.alloc ?_ _) | ((with_reducible refine Grew.setCell ?_ ?_ _); rotate_left; (focus (dsimp only; first | omega | (simp only [size_ext, World.size_alloc, Array.size_append]; omega)))) | (with_reducible refine Grew.drewN ?_ _) | (with_reducible refine Grew.drew ?_))))) | ((with_reducible refine upon_id ?_); refine upon_fop rfl (by assumption) (by assumption) ?_; intro rr nn hr))
          go_roundw
          case rel => exact ⟨k + 1, hlt, by go_num, Grew.trans gr (by (show Grew _ _; (try simp only [← Array.append_assoc]); repeat (first | (with_reducible exact Grew.same_o) | (with_reducible exact Grew.refl _) | (with_reducible assumption) | (with_reducible refine Grew.alloc ?_ _) | (with_reducible refine Grew.app_r ?_) | ((with_reducible refine Grew.setCell ?_ ?_ _); rotate_left; (focus (dsimp only; first | omega | (simp only [size_ext, World.size_alloc, Array.size_append]; omega)))) | (with_reducible refine Grew.ext ?_ _ _) | (with_reducible refine Grew.drewN ?_ _) | (with_reducible refine Grew.drew ?_)))), ints_take k hlt HL.out (by rw [← HXY.out.1, ← HXY.out.2]; exact HE.out) HT.out⟩
          case measure => simp [intOf]; omega
        · have d2 : (x != y) = true := by simp [hxy]
          have HE := hid hxy
          clear hxy
          go_wp2
          refine wp_region_R (Grew wr) [] [(0,0), (0,1), (0,2), (0,3), (0,4), (0,5), (0,6), (0,7), (0,8)] (by kernel_rfl) (by kernel_rfl) (fun _ _ _ _ h _ => h) (by first | exact ⟨_, _, ext_drew⟩ | exact ⟨_, _, drew_ext0⟩ | (show Grew _ _; repeat (first | (with_reducible exact Grew.refl _) | (with_reducible assumption) | (with_reducible exact Grew.same_o) | (with_reducible exact Grew.app_o) | (with_reducible refine Grew.ext ?_ _ _) | (with_reducible refine Grew.alloc ?_ _) | ((with_reducible refine Grew.setCell ?_ ?_ _); rotate_left; (focus (dsimp only; first | omega | (simp only [size_ext, World.size_alloc, Array.size_append]; omega)))) | (with_reducible refine Grew.drewN ?_ _) | (with_reducible refine Grew.drew ?_)))) ?_
          go_wp2_with (first | ((with_reducible refine wpR_id ?_); first | (refine wpR_take (v := ?_) rfl rfl ?_ ?_; rotate_left; (focus (rintro w' ⟨o', n', rfl⟩; go_simp; try with_reducible rfl)); simp only [Act.put, List.setIfInBounds_toArray, List.set_cons_zero, List.set_cons_succ]) | (refine wpR_pure (v := ?_) rfl rfl ?_ ?_; rotate_left; (focus (intro w'; go_simp; try with_reducible rfl)); simp only [Act.put, List.setIfInBounds_toArray, List.set_cons_zero, List.set_cons_succ]) | (refine wpR_takeG (v := ?_) rfl rfl rfl rfl rfl ?_ ?_; rotate_left; (focus (rintro w' ⟨o', n', rfl⟩; go_simp; try with_reducible rfl)); simp only [Act.put, List.setIfInBounds_toArray, List.set_cons_zero, List.set_cons_succ]) | (refine wpR_skip rfl rfl rfl rfl rfl rfl ?_; simp only [Act.put, List.setIfInBounds_toArray, List.set_cons_zero, List.set_cons_succ]) | (refine wpR_skipU rfl rfl rfl rfl rfl ?_; simp only [Act.put, List.setIfInBounds_toArray, List.set_cons_zero, List.set_cons_succ]) | (refine wpR_do rfl rfl (fun K hK => ?_)) | (refine wpR_doG rfl rfl rfl rfl rfl (fun K hK => ?_)) | (refine wpR_last rfl rfl (fun K hK => ?_)) | (refine wpR_nil ?_)) | ((with_reducible refine wpR_go ?_ ?_); (focus (show Grew _ _; repeat (first | (with_reducible exact Grew.refl _) | (with_reducible assumption) | (with_reducible exact Grew.same_o) | (with_reducible exact Grew.app_o) | (with_reducible refine Grew.ext ?_ _ _) | (with_reducible refine Grew.alloc ?_ _) | ((with_reducible refine Grew.setCell ?_ ?_ _); rotate_left; (focus (dsimp only; first | omega | (simp only [size_ext, World.size_alloc, Array.size_append]; omega)))) | (with_reducible refine Grew.drewN ?_ _) | (with_reducible refine Grew.drew ?_))))) | ((with_reducible refine upon_id ?_); refine upon_fop rfl (by assumption) (by assumption) ?_; intro rr nn hr))
          go_ret
          refine ⟨ret_bool ?_, Grew.trans gr (by (show Grew _ _; (try simp only [← Array.append_assoc]); repeat (first | (with_reducible exact Grew.same_o) | (with_reducible exact Grew.refl _) | (with_reducible assumption) | (with_reducible refine Grew.alloc ?_ _) | (with_reducible refine Grew.app_r ?_) | ((with_reducible refine Grew.setCell ?_ ?_ _); rotate_left; (focus (dsimp only; first | omega | (simp only [size_ext, World.size_alloc, Array.size_append]; omega)))) | (with_reducible refine Grew.ext ?_ _ _) | (with_reducible refine Grew.drewN ?_ _) | (with_reducible refine Grew.drew ?_))))⟩
          symm
          apply decide_eq_false
          intro h
          apply HE.out
          rw [HXY.out.1, HXY.out.2, h]
      · have e : k = xa.length := by omega
        subst e
        go_wp2
        go_ret
        refine ⟨ret_bool ?_, gr⟩
        symm
        apply decide_eq_true
        have h := HT.out
        rw [List.take_length, List.take_of_length_le (by rw [HL.out]; exact Nat.le_refl _)] at h
        exact h
  · have d1 : ((xa.length : Int) != xb.length) = true := by simp; omega
    have hne : ¬ xa = xb := fun h => hl (by rw [h])
    rw [decide_eq_false hne]
    clear hl hne
    go_enter Try.func104, Try.ntmps104
    go_wp2
    go_ret
    exact ⟨rfl, by (show Grew _ _; repeat (first | (with_reducible exact Grew.refl _) | (with_reducible assumption) | (with_reducible exact Grew.same_o) | (with_reducible exact Grew.app_o) | (with_reducible refine Grew.ext ?_ _ _) | (with_reducible refine Grew.alloc ?_ _) | ((with_reducible refine Grew.setCell ?_ ?_ _); rotate_left; (focus (dsimp only; first | omega | (simp only [size_ext, World.size_alloc, Array.size_append]; omega)))) | (with_reducible refine Grew.drewN ?_ _) | (with_reducible refine Grew.drew ?_)))⟩
theorem is_lit2 {w : World} {t : TypeId} (a b : Int) (n : Nat) (hn : n = w.heap.size) : IS .i64 (w.alloc (.cells #[.int .i64 a, .int .i64 b] t)) (.slice (some ⟨n, 0, none⟩) 2 2) [a, b] := by
  subst hn
  have h : Box (w.alloc (.cells #[.int .i64 a, .int .i64 b] t)) w.heap.size #[.int .i64 a, .int .i64 b] := Box.new' rfl
  refine ⟨by simp, some ⟨w.heap.size, 0, none⟩, 2, rfl, fun i hi => ⟨w.heap.size, 0, rfl, ?_⟩⟩
  rw [Nat.zero_add, h.cell]
  obtain rfl | rfl : i = 0 ∨ i = 1 := by simp at hi; omega
  · rfl
  · rfl
def L15 : List Nat := [4620693217682128896, 0, 4607182418800017408, 4611686018427387904]
def M15 : MatM := ⟨denseL 2 2 L15, 0, 2, 2, 2⟩
theorem facts_15 : FactsOut M15.num 2 2 0 [-3, -1] [0, 0] := by
  refine .inr (.inr ⟨?_, ?_, rfl, ?_, ?_⟩)
  · decide +kernel
  · decide +kernel
  · decide +kernel
  · decide +kernel
theorem efact_15 (v : Value) (w : World) (h : FS w v (denseL 2 2 L15)) : Calls Try.prog 102 #[.agg #[v, .int .i64 0, .int .i64 2, .int .i64 2, .int .i64 2]] w (fun e w' => ∃ v1 v2, e = .returned (.tuple #[v1, v2, .int .i64 0, .int .i64 0]) ∧ IS .i64 w' v1 [-3, -1] ∧ IS .i64 w' v2 [0, 0] ∧ ∃ o n, w' = ext w o n) := by
  refine (efact_ok M15 v 2 2 w h (by decide +kernel) (by simp [MatM.wf, I64, M15]) (by decide +kernel) rfl rfl (by decide) (by decide) (by decide +kernel)).mono fun e w' hh => ?_
  obtain ⟨v1, v2, a, rs, cs, rfl, h1, h2, h3, h4⟩ := hh
  obtain ⟨rfl, rfl, rfl⟩ := h1.unique facts_15
  exact ⟨v1, v2, rfl, h2, h3, h4⟩
theorem ints_same (VA VB : Value) (xa : List Int) (w : World) (hA : IS .i64 w VA xa) (hB : IS .i64 w VB xa) (hla : xa.length ≤ 1000000) : Calls Try.prog 104 #[VA, VB] w (fun e w' => e = .returned (.bool true) ∧ ∃ o n, w' = ext w o n) := by
  have := ints_any VA VB xa xa w hA hB hla hla
  rw [decide_eq_true rfl] at this
  exact this
set_option maxRecDepth 100000 in
set_option maxHeartbeats 4000000 in
/-- The document's example. -/
theorem awake15 (w : World) : Calls Try.prog 101 #[] w (fun e w' => e = .returned (.bool true) ∧ ∃ o n, w' = ext w o n) := by
  have h1 : ∀ x ∈ L15, IsF x x := by decide +kernel
  have H1 := hid h1
  clear h1
  have hd2 : ∀ aL w', FS w' (.slice aL 4 4) L15 → Calls Try.prog 69 #[.int .i64 2, .int .i64 2, .slice aL 4 4] w' (fun e w2 => ∃ v, e = .returned (.agg #[v, .int .i64 0, .int .i64 2, .int .i64 2, .int .i64 2]) ∧ FS w2 v (denseL 2 2 L15) ∧ ∃ o n, w2 = ext w' o n) := fun aL w' h => by
    refine (dense_any 2 2 aL L15 w' h (by decide) (by decide) (by decide) (by decide) rfl).mono fun e w2 hh => ?_
    obtain ⟨v, rfl, q1, q2⟩ := hh
    exact ⟨v, rfl, q1.fs, q2⟩
  go_enter Try.func101, Try.ntmps101
  go_wp2_with (first | (go_at_call 69; ((with_reducible refine (hd2 _ _ ?_).mono ?_); (focus (repeat (first | exact FS.lit L15 (by decide) H1.out 4 _ (by simp only [size_ext, World.size_alloc]) | exact FS.lit L15 (by decide) H1.out 4 _ rfl | refine FS.alloc ?_ _ | refine FS.ext ?_ _ _))); rintro e w1 ⟨v, rfl, hv, o1, n1, rfl⟩)) | (go_at_call 102; ((with_reducible refine (efact_15 _ _ hv).mono ?_); rintro e w1 ⟨v1, v2, rfl, hv1, hv2, o2, n2, rfl⟩; (simp only [ext_ext] at hv1 hv2))) | (go_at_call 104; ((with_reducible refine (ints_same _ _ [-3, -1] _ (hv1.grew (by (show Grew _ _; (try simp only [← Array.append_assoc]); repeat (first | (with_reducible exact Grew.same_o) | (with_reducible exact Grew.refl _) | (with_reducible assumption) | (with_reducible refine Grew.alloc ?_ _) | (with_reducible refine Grew.app_r ?_) | ((with_reducible refine Grew.setCell ?_ ?_ _); rotate_left; (focus (dsimp only; first | omega | (simp only [size_ext, World.size_alloc, Array.size_append]; omega)))) | (with_reducible refine Grew.ext ?_ _ _) | (with_reducible refine Grew.drewN ?_ _) | (with_reducible refine Grew.drew ?_))))) (is_lit2 _ _ _ (by simp only [size_ext, World.size_alloc, Array.size_append])) (by decide)).mono ?_); rintro e w3 ⟨rfl, o3, n3, rfl⟩)) | (go_at_call 104; ((with_reducible refine (ints_same _ _ [0, 0] _ (hv2.grew (by (show Grew _ _; (try simp only [← Array.append_assoc]); repeat (first | (with_reducible exact Grew.same_o) | (with_reducible exact Grew.refl _) | (with_reducible assumption) | (with_reducible refine Grew.alloc ?_ _) | (with_reducible refine Grew.app_r ?_) | ((with_reducible refine Grew.setCell ?_ ?_ _); rotate_left; (focus (dsimp only; first | omega | (simp only [size_ext, World.size_alloc, Array.size_append]; omega)))) | (with_reducible refine Grew.ext ?_ _ _) | (with_reducible refine Grew.drewN ?_ _) | (with_reducible refine Grew.drew ?_))))) (is_lit2 _ _ _ (by simp only [size_ext, World.size_alloc, Array.size_append])) (by decide)).mono ?_); rintro e w3 ⟨rfl, o3, n3, rfl⟩)))
  go_ret
  exact ⟨rfl, by (show Grew _ _; repeat (first | (with_reducible exact Grew.refl _) | (with_reducible assumption) | (with_reducible exact Grew.same_o) | (with_reducible exact Grew.app_o) | (with_reducible refine Grew.ext ?_ _ _) | (with_reducible refine Grew.alloc ?_ _) | ((with_reducible refine Grew.setCell ?_ ?_ _); rotate_left; (focus (dsimp only; first | omega | (simp only [size_ext, World.size_alloc, Array.size_append]; omega)))) | (with_reducible refine Grew.drewN ?_ _) | (with_reducible refine Grew.drew ?_)))⟩
end Go.Proofs.Ytcmggfpcbijcjaa
end
section
/-
  The walk of the law EquilFactors (layer 15).
-/
set_option linter.unusedSimpArgs false
set_option linter.unusedVariables false
open Go Go.RowKit Sedge
namespace Go.Proofs.Ytcmggfpcbijcjaa
theorem finL_iff (ws : List Nat) : finL ws = true ↔ ∀ k, k < ws.length → finB (ws.getD k 0) = true := by
  unfold finL
  rw [List.all_eq_true]
  constructor
  · intro h k hk
    refine h _ ?_
    rw [List.getD_eq_getElem?_getD, List.getElem?_eq_getElem hk]; exact List.getElem_mem _
  · intro h x hx
    obtain ⟨k, hk, rfl⟩ := List.mem_iff_getElem.1 hx
    have := h k hk
    rw [List.getD_eq_getElem?_getD, List.getElem?_eq_getElem hk] at this
    exact this
theorem numL_getD (x : MatM) {i j : Nat} (hi : i < x.rows.toNat) (hj : j < x.cols.toNat) : (numL x).getD (j * x.rows.toNat + i) 0 = x.num i j := by
  unfold numL numTo
  have hk : j * x.rows.toNat + i < x.rows.toNat * x.cols.toNat := by
    have := Nat.mul_le_mul_right x.rows.toNat (show j + 1 ≤ x.cols.toNat by omega)
    rw [Nat.add_mul, Nat.mul_comm x.cols.toNat] at this; omega
  rw [List.getD_eq_getElem?_getD, List.getElem?_map, List.getElem?_range hk]
  show x.num ((j * x.rows.toNat + i) % x.rows.toNat) ((j * x.rows.toNat + i) / x.rows.toNat) = _
  rw [Nat.add_comm, Nat.add_mul_mod_self_right, Nat.mod_eq_of_lt hi, Nat.add_mul_div_right _ _ (by omega), Nat.div_eq_of_lt hi, Nat.zero_add]
theorem numL_length (x : MatM) : (numL x).length = x.rows.toNat * x.cols.toNat := by simp [numL, numTo]
theorem fin_tab (x : MatM) : finL x.tab = finL (numL x) := by
  have h1 : finL x.tab = true ↔ finL (numL x) = true := by
    rw [finL_iff, finL_iff, MatM.tab_length, numL_length]
    constructor
    · intro h k hk
      have hR : 0 < x.rows.toNat := Nat.pos_of_ne_zero (fun e => by rw [e] at hk; omega)
      have h2 : k % x.rows.toNat < x.rows.toNat := Nat.mod_lt _ hR
      have h3 : k / x.rows.toNat < x.cols.toNat := by rw [Nat.div_lt_iff_lt_mul hR, Nat.mul_comm]; exact hk
      have e : k = k / x.rows.toNat * x.rows.toNat + k % x.rows.toNat := (Nat.div_add_mod' k _).symm
      rw [e, numL_getD x h2 h3, ← x.tab_hold.get _ _ h2 h3]
      refine h _ ?_
      exact at_lt h2 h3
    · intro h k hk
      have hC : 0 < x.cols.toNat := Nat.pos_of_ne_zero (fun e => by rw [e] at hk; omega)
      have h2 : k % x.cols.toNat < x.cols.toNat := Nat.mod_lt _ hC
      have h3 : k / x.cols.toNat < x.rows.toNat := by rw [Nat.div_lt_iff_lt_mul hC]; exact hk
      have e : k = k / x.cols.toNat * x.cols.toNat + k % x.cols.toNat := (Nat.div_add_mod' k _).symm
      rw [e]
      have := x.tab_hold.get _ _ h3 h2
      rw [show x.tab.getD (k / x.cols.toNat * x.cols.toNat + k % x.cols.toNat) 0 = x.num (k / x.cols.toNat) (k % x.cols.toNat) from this, ← numL_getD x h3 h2]
      refine h _ ?_
      have := Nat.mul_le_mul_right x.rows.toNat (show k % x.cols.toNat + 1 ≤ x.cols.toNat by omega)
      rw [Nat.add_mul, Nat.mul_comm x.cols.toNat] at this; omega
  cases h2 : finL x.tab <;> cases h3 : finL (numL x) <;> simp_all
theorem FactsOut.empty {M : Nat → Nat → Nat} {R C : Nat} {a : Int} {r c : List Int} (h : FactsOut M R C a r c) (ha : a ≠ 0) : r = [] ∧ c = [] := by
  rcases h with ⟨i, _, h2, _, _, h5, h6⟩ | ⟨_, j, _, h2, _, _, h5, h6⟩ | ⟨_, _, h2, _⟩
  · exact ⟨h5, h6⟩
  · exact ⟨h5, h6⟩
  · exact absurd h2 ha
theorem FactsOut.len {M : Nat → Nat → Nat} {R C : Nat} {a : Int} {r c : List Int} (h : FactsOut M R C a r c) : r.length ≤ R ∧ c.length ≤ C := by
  rcases h with ⟨i, _, h2, _, _, h5, h6⟩ | ⟨_, j, _, h2, _, _, h5, h6⟩ | ⟨_, _, h2, h3, h4⟩
  · rw [h5, h6]; simp
  · rw [h5, h6]; simp
  · rw [h3, h4, rowsTo'_length, colsTo'_length]; omega
set_option maxRecDepth 100000 in
set_option maxHeartbeats 8000000 in
theorem equilFactors_any (x : MatM) (D : Value) (w : World) (hD : FS w D x.ws) (hwf : x.wf) :
    Calls Try.prog 18 #[.agg #[D, .int .i64 x.off, .int .i64 x.rows, .int .i64 x.cols, .int .i64 x.ld]] w (fun e w' => e = .returned (.bool true) ∧ ∃ o n, w' = ext w o n) := by
  have hgt : ∀ w', FS w' D x.ws → Calls Try.prog 42 #[.agg #[D, .int .i64 x.off, .int .i64 x.rows, .int .i64 x.cols, .int .i64 x.ld]] w' (fun e w2 => e = .returned (.bool (MatM.great x)) ∧ ∃ o n, w2 = ext w' o n) := fun w' h => great_any x D w' h
  have hgd : ∀ w', FS w' D x.ws → Calls Try.prog 46 #[.agg #[D, .int .i64 x.off, .int .i64 x.rows, .int .i64 x.cols, .int .i64 x.ld]] w' (fun e w2 => e = .returned (.bool x.good) ∧ ∃ o n, w2 = ext w' o n) := fun w' h => rgood_any x D w' h hwf
  cases hg : MatM.great x
  · rw [hg] at hgt
    have hll : x.ws.length ≤ 1000 ∧ x.rows ≤ 20 ∧ x.cols ≤ 20 := by
      unfold MatM.great at hg
      simp only [Bool.or_eq_false_iff, decide_eq_false_iff_not] at hg
      omega
    cases hgo : x.good
    · rw [hgo] at hgd
      have hef : ∀ w', FS w' D x.ws → Calls Try.prog 102 #[.agg #[D, .int .i64 x.off, .int .i64 x.rows, .int .i64 x.cols, .int .i64 x.ld]] w' (fun e w2 => e = .returned (.tuple #[.slice none 0 0, .slice none 0 0, .int .i64 0, .int .i64 1]) ∧ ∃ o n, w2 = ext w' o n) := fun w' h => by
        have := efact_bad x D w' h hwf (by omega) (by omega) (by omega) (.inl hgo)
        rw [hgo] at this; exact this
      clear hg hgo hwf
      go_enter Try.func18, Try.ntmps18
      refine seq_stop ?_
      go_wp2
      refine stop_go (fun W hW => ?_)
      have s1 : w.heap.size < W.heap.size := by rw [hW]; simp only [World.size_alloc]; omega
      have b1 : ∀ i, W.cell? ⟨w.heap.size, i, none⟩ = (#[D, .int .i64 x.off, .int .i64 x.rows, .int .i64 x.cols, .int .i64 x.ld] : Array Value)[i]? := by intro i; rw [hW]; go_simp
      have g0 : Grew w W := by rw [hW]; exact (Grew.refl _).alloc _
      clear hW
      have hDW := hD.grew g0
      go_wp2_with (first | (go_at_call 101; ((with_reducible refine (awake15 _).mono ?_); rintro e w1 ⟨rfl, o1, n1, rfl⟩)) | (go_at_call 101; ((with_reducible refine (awake15 _).mono ?_); rintro e w9 ⟨rfl, o9, n9, rfl⟩)) | (go_at_call 42; ((with_reducible refine (hgt _ ?_).mono ?_); (focus (first | (with_reducible assumption) | (with_reducible refine FS.ext ?_ _ _; with_reducible assumption) | (with_reducible refine IS.ext ?_ _ _; with_reducible assumption) | (refine hDu _ ?_; with_reducible assumption) | (refine hOu _ ?_; with_reducible assumption) | (refine hDa _ ?_; with_reducible assumption) | (refine hDb _ ?_; with_reducible assumption) | (refine hDc _ ?_; with_reducible assumption) | (refine hDd _ ?_; with_reducible assumption) | (refine FW.fs ?_ (by omega) _; with_reducible assumption) | (refine WS.fs ?_; with_reducible assumption) | (refine FW.fs ?_ (by omega) _; assumption) | omega | assumption)); rintro e w1 ⟨rfl, o1, n1, rfl⟩)) | (go_at_call 46; ((with_reducible refine (hgd _ ?_).mono ?_); (focus (first | (with_reducible assumption) | (with_reducible refine FS.ext ?_ _ _; with_reducible assumption) | (with_reducible refine IS.ext ?_ _ _; with_reducible assumption) | (refine hDu _ ?_; with_reducible assumption) | (refine hOu _ ?_; with_reducible assumption) | (refine hDa _ ?_; with_reducible assumption) | (refine hDb _ ?_; with_reducible assumption) | (refine hDc _ ?_; with_reducible assumption) | (refine hDd _ ?_; with_reducible assumption) | (refine FW.fs ?_ (by omega) _; with_reducible assumption) | (refine WS.fs ?_; with_reducible assumption) | (refine FW.fs ?_ (by omega) _; assumption) | omega | assumption)); rintro e w1 ⟨rfl, o1, n1, rfl⟩)) | (go_at_call 102; ((with_reducible refine (hef _ ?_).mono ?_); (focus (first | (with_reducible assumption) | (with_reducible refine FS.ext ?_ _ _; with_reducible assumption) | (with_reducible refine IS.ext ?_ _ _; with_reducible assumption) | (refine hDu _ ?_; with_reducible assumption) | (refine hOu _ ?_; with_reducible assumption) | (refine hDa _ ?_; with_reducible assumption) | (refine hDb _ ?_; with_reducible assumption) | (refine hDc _ ?_; with_reducible assumption) | (refine hDd _ ?_; with_reducible assumption) | (refine FW.fs ?_ (by omega) _; with_reducible assumption) | (refine WS.fs ?_; with_reducible assumption) | (refine FW.fs ?_ (by omega) _; assumption) | omega | assumption)); rintro e w1 ⟨rfl, o1, n1, rfl⟩)))
      go_ret
      exact ⟨rfl, by (show Grew _ _; repeat (first | (with_reducible exact Grew.refl _) | (with_reducible assumption) | (with_reducible exact Grew.same_o) | (with_reducible exact Grew.app_o) | (with_reducible refine Grew.ext ?_ _ _) | (with_reducible refine Grew.alloc ?_ _) | ((with_reducible refine Grew.setCell ?_ ?_ _); rotate_left; (focus (dsimp only; first | omega | (simp only [size_ext, World.size_alloc, Array.size_append]; omega)))) | (with_reducible refine Grew.drewN ?_ _) | (with_reducible refine Grew.drew ?_)))⟩
    · rw [hgo] at hgd
      have hrof : ∀ w', FS w' D x.ws → Calls Try.prog 48 #[.agg #[D, .int .i64 x.off, .int .i64 x.rows, .int .i64 x.cols, .int .i64 x.ld]] w' (fun e w2 => ∃ v, e = .returned (.agg #[.int .i64 x.rows, .int .i64 x.cols, v]) ∧ FS w2 v x.tab ∧ ∃ o n, w2 = ext w' o n) := fun w' h => by
        refine (rof_any x D w' h hgo (by omega) (by omega) (by omega) hwf).mono fun e w2 hh => ?_
        obtain ⟨v, rfl, q1, q2⟩ := hh
        exact ⟨v, rfl, q1.fs, q2⟩
      have hfl : ∀ v w', FS w' v x.tab → Calls Try.prog 25 #[v] w' (fun e w2 => e = .returned (.bool (finL (numL x))) ∧ w' = w2) := fun v w' h => by
        have := finite_any v x.tab w' h; rw [fin_tab] at this; exact this
      cases hfi : finL (numL x)
      · rw [hfi] at hfl
        have hef : ∀ w', FS w' D x.ws → Calls Try.prog 102 #[.agg #[D, .int .i64 x.off, .int .i64 x.rows, .int .i64 x.cols, .int .i64 x.ld]] w' (fun e w2 => e = .returned (.tuple #[.slice none 0 0, .slice none 0 0, .int .i64 0, .int .i64 8]) ∧ ∃ o n, w2 = ext w' o n) := fun w' h => by
          have := efact_bad x D w' h hwf (by omega) (by omega) (by omega) (.inr hfi)
          rw [hgo] at this; exact this
        obtain ⟨TB, hTB⟩ : ∃ TB, TB = x.tab := ⟨_, rfl⟩
        rw [← hTB] at hrof hfl
        clear hg hgo hwf hfi hTB
        go_enter Try.func18, Try.ntmps18
        refine seq_stop ?_
        go_wp2
        refine stop_go (fun W hW => ?_)
        have s1 : w.heap.size < W.heap.size := by rw [hW]; simp only [World.size_alloc]; omega
        have b1 : ∀ i, W.cell? ⟨w.heap.size, i, none⟩ = (#[D, .int .i64 x.off, .int .i64 x.rows, .int .i64 x.cols, .int .i64 x.ld] : Array Value)[i]? := by intro i; rw [hW]; go_simp
        have g0 : Grew w W := by rw [hW]; exact (Grew.refl _).alloc _
        clear hW
        have hDW := hD.grew g0
        go_wp2_with (first | (go_at_call 101; ((with_reducible refine (awake15 _).mono ?_); rintro e w1 ⟨rfl, o1, n1, rfl⟩)) | (go_at_call 101; ((with_reducible refine (awake15 _).mono ?_); rintro e w9 ⟨rfl, o9, n9, rfl⟩)) | (go_at_call 42; ((with_reducible refine (hgt _ ?_).mono ?_); (focus (first | (with_reducible assumption) | (with_reducible refine FS.ext ?_ _ _; with_reducible assumption) | (with_reducible refine IS.ext ?_ _ _; with_reducible assumption) | (refine hDu _ ?_; with_reducible assumption) | (refine hOu _ ?_; with_reducible assumption) | (refine hDa _ ?_; with_reducible assumption) | (refine hDb _ ?_; with_reducible assumption) | (refine hDc _ ?_; with_reducible assumption) | (refine hDd _ ?_; with_reducible assumption) | (refine FW.fs ?_ (by omega) _; with_reducible assumption) | (refine WS.fs ?_; with_reducible assumption) | (refine FW.fs ?_ (by omega) _; assumption) | omega | assumption)); rintro e w1 ⟨rfl, o1, n1, rfl⟩)) | (go_at_call 46; ((with_reducible refine (hgd _ ?_).mono ?_); (focus (first | (with_reducible assumption) | (with_reducible refine FS.ext ?_ _ _; with_reducible assumption) | (with_reducible refine IS.ext ?_ _ _; with_reducible assumption) | (refine hDu _ ?_; with_reducible assumption) | (refine hOu _ ?_; with_reducible assumption) | (refine hDa _ ?_; with_reducible assumption) | (refine hDb _ ?_; with_reducible assumption) | (refine hDc _ ?_; with_reducible assumption) | (refine hDd _ ?_; with_reducible assumption) | (refine FW.fs ?_ (by omega) _; with_reducible assumption) | (refine WS.fs ?_; with_reducible assumption) | (refine FW.fs ?_ (by omega) _; assumption) | omega | assumption)); rintro e w1 ⟨rfl, o1, n1, rfl⟩)) | (go_at_call 102; ((with_reducible refine (hef _ ?_).mono ?_); (focus (first | (with_reducible assumption) | (with_reducible refine FS.ext ?_ _ _; with_reducible assumption) | (with_reducible refine IS.ext ?_ _ _; with_reducible assumption) | (refine hDu _ ?_; with_reducible assumption) | (refine hOu _ ?_; with_reducible assumption) | (refine hDa _ ?_; with_reducible assumption) | (refine hDb _ ?_; with_reducible assumption) | (refine hDc _ ?_; with_reducible assumption) | (refine hDd _ ?_; with_reducible assumption) | (refine FW.fs ?_ (by omega) _; with_reducible assumption) | (refine WS.fs ?_; with_reducible assumption) | (refine FW.fs ?_ (by omega) _; assumption) | omega | assumption)); rintro e w1 ⟨rfl, o1, n1, rfl⟩)) | (go_at_call 48; ((with_reducible refine (hrof _ ?_).mono ?_); (focus (first | (with_reducible assumption) | (with_reducible refine FS.ext ?_ _ _; with_reducible assumption) | (with_reducible refine IS.ext ?_ _ _; with_reducible assumption) | (refine hDu _ ?_; with_reducible assumption) | (refine hOu _ ?_; with_reducible assumption) | (refine hDa _ ?_; with_reducible assumption) | (refine hDb _ ?_; with_reducible assumption) | (refine hDc _ ?_; with_reducible assumption) | (refine hDd _ ?_; with_reducible assumption) | (refine FW.fs ?_ (by omega) _; with_reducible assumption) | (refine WS.fs ?_; with_reducible assumption) | (refine FW.fs ?_ (by omega) _; assumption) | omega | assumption)); rintro e w1 ⟨v, rfl, hv, o1, n1, rfl⟩; (obtain ⟨va, vc, rfl⟩ := hv.shape); (try simp only [drew_ext, drewN_ext, ext_ext] at hv))) | (go_at_call 25; ((with_reducible refine (hfl _ _ (hv.grew (by (show Grew _ _; (try simp only [← Array.append_assoc]); repeat (first | (with_reducible exact Grew.same_o) | (with_reducible exact Grew.refl _) | (with_reducible assumption) | (with_reducible refine Grew.alloc ?_ _) | (with_reducible refine Grew.app_r ?_) | ((with_reducible refine Grew.setCell ?_ ?_ _); rotate_left; (focus (dsimp only; first | omega | (simp only [size_ext, World.size_alloc, Array.size_append]; omega)))) | (with_reducible refine Grew.ext ?_ _ _) | (with_reducible refine Grew.drewN ?_ _) | (with_reducible refine Grew.drew ?_)))))).mono ?_); rintro e w1 ⟨rfl, rfl⟩)))
        go_ret
        exact ⟨rfl, by (show Grew _ _; repeat (first | (with_reducible exact Grew.refl _) | (with_reducible assumption) | (with_reducible exact Grew.same_o) | (with_reducible exact Grew.app_o) | (with_reducible refine Grew.ext ?_ _ _) | (with_reducible refine Grew.alloc ?_ _) | ((with_reducible refine Grew.setCell ?_ ?_ _); rotate_left; (focus (dsimp only; first | omega | (simp only [size_ext, World.size_alloc, Array.size_append]; omega)))) | (with_reducible refine Grew.drewN ?_ _) | (with_reducible refine Grew.drew ?_)))⟩
      · rw [hfi] at hfl
        have hn := MatM.good_n hgo
        obtain ⟨R, hR⟩ : ∃ R : Nat, x.rows = R := ⟨x.rows.toNat, by omega⟩
        obtain ⟨C, hC⟩ : ∃ C : Nat, x.cols = C := ⟨x.cols.toNat, by omega⟩
        have hef := fun w' h => efact_ok x D R C w' h hgo hwf (by omega) hR hC (by omega) (by omega) hfi
        have hrf := fun v w' h => rfact_any x.num R C v x.tab w' h (by rw [MatM.tab_length, hR, hC]; rfl) (fun i j hi hj => by
          have := x.tab_hold.get i j (by rw [hR]; exact hi) (by rw [hC]; exact hj)
          rw [hC] at this; exact this) (by omega) (by omega)
        rw [hR, hC] at hgt hgd hrof ⊢
        obtain ⟨M, hM⟩ : ∃ M, M = x.num := ⟨_, rfl⟩
        rw [← hM] at hef hrf
        obtain ⟨TB, hTB⟩ : ∃ TB, TB = x.tab := ⟨_, rfl⟩
        rw [← hTB] at hrof hfl hrf
        have hr20 : R ≤ 1000 := by omega
        have hc20 : C ≤ 1000 := by omega
        clear hg hgo hwf hfi hn hR hC hM hll hTB
        go_enter Try.func18, Try.ntmps18
        refine seq_stop ?_
        go_wp2
        refine stop_go (fun W hW => ?_)
        have s1 : w.heap.size < W.heap.size := by rw [hW]; simp only [World.size_alloc]; omega
        have b1 : ∀ i, W.cell? ⟨w.heap.size, i, none⟩ = (#[D, .int .i64 x.off, .int .i64 R, .int .i64 C, .int .i64 x.ld] : Array Value)[i]? := by intro i; rw [hW]; go_simp
        have g0 : Grew w W := by rw [hW]; exact (Grew.refl _).alloc _
        clear hW
        have hDW := hD.grew g0
        go_upto_region 12 with (first | (go_at_call 101; ((with_reducible refine (awake15 _).mono ?_); rintro e w1 ⟨rfl, o1, n1, rfl⟩)) | (go_at_call 42; ((with_reducible refine (hgt _ ?_).mono ?_); (focus (first | (with_reducible assumption) | (with_reducible refine FS.ext ?_ _ _; with_reducible assumption) | (with_reducible refine IS.ext ?_ _ _; with_reducible assumption) | (refine hDu _ ?_; with_reducible assumption) | (refine hOu _ ?_; with_reducible assumption) | (refine hDa _ ?_; with_reducible assumption) | (refine hDb _ ?_; with_reducible assumption) | (refine hDc _ ?_; with_reducible assumption) | (refine hDd _ ?_; with_reducible assumption) | (refine FW.fs ?_ (by omega) _; with_reducible assumption) | (refine WS.fs ?_; with_reducible assumption) | (refine FW.fs ?_ (by omega) _; assumption) | omega | assumption)); rintro e w1 ⟨rfl, o1, n1, rfl⟩)) | (go_at_call 46; ((with_reducible refine (hgd _ ?_).mono ?_); (focus (first | (with_reducible assumption) | (with_reducible refine FS.ext ?_ _ _; with_reducible assumption) | (with_reducible refine IS.ext ?_ _ _; with_reducible assumption) | (refine hDu _ ?_; with_reducible assumption) | (refine hOu _ ?_; with_reducible assumption) | (refine hDa _ ?_; with_reducible assumption) | (refine hDb _ ?_; with_reducible assumption) | (refine hDc _ ?_; with_reducible assumption) | (refine hDd _ ?_; with_reducible assumption) | (refine FW.fs ?_ (by omega) _; with_reducible assumption) | (refine WS.fs ?_; with_reducible assumption) | (refine FW.fs ?_ (by omega) _; assumption) | omega | assumption)); rintro e w1 ⟨rfl, o1, n1, rfl⟩)) | (go_at_call 102; ((with_reducible refine (hef _ ?_).mono ?_); (focus (first | (with_reducible assumption) | (with_reducible refine FS.ext ?_ _ _; with_reducible assumption) | (with_reducible refine IS.ext ?_ _ _; with_reducible assumption) | (refine hDu _ ?_; with_reducible assumption) | (refine hOu _ ?_; with_reducible assumption) | (refine hDa _ ?_; with_reducible assumption) | (refine hDb _ ?_; with_reducible assumption) | (refine hDc _ ?_; with_reducible assumption) | (refine hDd _ ?_; with_reducible assumption) | (refine FW.fs ?_ (by omega) _; with_reducible assumption) | (refine WS.fs ?_; with_reducible assumption) | (refine FW.fs ?_ (by omega) _; assumption) | omega | assumption)); rintro e w1 ⟨v1, v2, a, rs, cs, rfl, hO, hv1, hv2, o1, n1, rfl⟩; (try simp only [drew_ext, drewN_ext, ext_ext] at hv1 hv2))) | (go_at_call 48; ((with_reducible refine (hrof _ ?_).mono ?_); (focus (first | (with_reducible assumption) | (with_reducible refine FS.ext ?_ _ _; with_reducible assumption) | (with_reducible refine IS.ext ?_ _ _; with_reducible assumption) | (refine hDu _ ?_; with_reducible assumption) | (refine hOu _ ?_; with_reducible assumption) | (refine hDa _ ?_; with_reducible assumption) | (refine hDb _ ?_; with_reducible assumption) | (refine hDc _ ?_; with_reducible assumption) | (refine hDd _ ?_; with_reducible assumption) | (refine FW.fs ?_ (by omega) _; with_reducible assumption) | (refine WS.fs ?_; with_reducible assumption) | (refine FW.fs ?_ (by omega) _; assumption) | omega | assumption)); rintro e w1 ⟨v, rfl, hv, o1, n1, rfl⟩; (obtain ⟨va, vc, rfl⟩ := hv.shape); (try simp only [drew_ext, drewN_ext, ext_ext] at hv))) | (go_at_call 25; ((with_reducible refine (hfl _ _ (hv.grew (by (show Grew _ _; (try simp only [← Array.append_assoc]); repeat (first | (with_reducible exact Grew.same_o) | (with_reducible exact Grew.refl _) | (with_reducible assumption) | (with_reducible refine Grew.alloc ?_ _) | (with_reducible refine Grew.app_r ?_) | ((with_reducible refine Grew.setCell ?_ ?_ _); rotate_left; (focus (dsimp only; first | omega | (simp only [size_ext, World.size_alloc, Array.size_append]; omega)))) | (with_reducible refine Grew.ext ?_ _ _) | (with_reducible refine Grew.drewN ?_ _) | (with_reducible refine Grew.drew ?_)))))).mono ?_); rintro e w1 ⟨rfl, rfl⟩)) | (go_at_call 103; ((with_reducible refine (hrf _ _ (hv.grew (by (show Grew _ _; (try simp only [← Array.append_assoc]); repeat (first | (with_reducible exact Grew.same_o) | (with_reducible exact Grew.refl _) | (with_reducible assumption) | (with_reducible refine Grew.alloc ?_ _) | (with_reducible refine Grew.app_r ?_) | ((with_reducible refine Grew.setCell ?_ ?_ _); rotate_left; (focus (dsimp only; first | omega | (simp only [size_ext, World.size_alloc, Array.size_append]; omega)))) | (with_reducible refine Grew.ext ?_ _ _) | (with_reducible refine Grew.drewN ?_ _) | (with_reducible refine Grew.drew ?_)))))).mono ?_); rintro e w1 ⟨v3, v4, a2, rs2, cs2, rfl, hO2, hv3, hv4, o1, n1, rfl⟩; (try simp only [drew_ext, drewN_ext, ext_ext] at hv3 hv4))))
        obtain ⟨rfl, rfl, rfl⟩ := hO.unique hO2
        have hln := hO.len
        by_cases ha : a = 0
        · subst ha
          have e0 : errF 0 = 0 := rfl
          clear hO hO2 hef hrf hrof hgt hgd hfl
          go_wp2_with (first | (go_at_call 101; ((with_reducible refine (awake15 _).mono ?_); rintro e w9 ⟨rfl, o9, n9, rfl⟩)) | (go_at_call 104; ((with_reducible refine (ints_same _ _ rs _ (hv1.grew (by (show Grew _ _; (try simp only [← Array.append_assoc]); repeat (first | (with_reducible exact Grew.same_o) | (with_reducible exact Grew.refl _) | (with_reducible assumption) | (with_reducible refine Grew.alloc ?_ _) | (with_reducible refine Grew.app_r ?_) | ((with_reducible refine Grew.setCell ?_ ?_ _); rotate_left; (focus (dsimp only; first | omega | (simp only [size_ext, World.size_alloc, Array.size_append]; omega)))) | (with_reducible refine Grew.ext ?_ _ _) | (with_reducible refine Grew.drewN ?_ _) | (with_reducible refine Grew.drew ?_))))) (hv3.grew (by (show Grew _ _; (try simp only [← Array.append_assoc]); repeat (first | (with_reducible exact Grew.same_o) | (with_reducible exact Grew.refl _) | (with_reducible assumption) | (with_reducible refine Grew.alloc ?_ _) | (with_reducible refine Grew.app_r ?_) | ((with_reducible refine Grew.setCell ?_ ?_ _); rotate_left; (focus (dsimp only; first | omega | (simp only [size_ext, World.size_alloc, Array.size_append]; omega)))) | (with_reducible refine Grew.ext ?_ _ _) | (with_reducible refine Grew.drewN ?_ _) | (with_reducible refine Grew.drew ?_))))) (by omega)).mono ?_); rintro e w3 ⟨rfl, o3, n3, rfl⟩)) | (go_at_call 104; ((with_reducible refine (ints_same _ _ cs _ (hv2.grew (by (show Grew _ _; (try simp only [← Array.append_assoc]); repeat (first | (with_reducible exact Grew.same_o) | (with_reducible exact Grew.refl _) | (with_reducible assumption) | (with_reducible refine Grew.alloc ?_ _) | (with_reducible refine Grew.app_r ?_) | ((with_reducible refine Grew.setCell ?_ ?_ _); rotate_left; (focus (dsimp only; first | omega | (simp only [size_ext, World.size_alloc, Array.size_append]; omega)))) | (with_reducible refine Grew.ext ?_ _ _) | (with_reducible refine Grew.drewN ?_ _) | (with_reducible refine Grew.drew ?_))))) (hv4.grew (by (show Grew _ _; (try simp only [← Array.append_assoc]); repeat (first | (with_reducible exact Grew.same_o) | (with_reducible exact Grew.refl _) | (with_reducible assumption) | (with_reducible refine Grew.alloc ?_ _) | (with_reducible refine Grew.app_r ?_) | ((with_reducible refine Grew.setCell ?_ ?_ _); rotate_left; (focus (dsimp only; first | omega | (simp only [size_ext, World.size_alloc, Array.size_append]; omega)))) | (with_reducible refine Grew.ext ?_ _ _) | (with_reducible refine Grew.drewN ?_ _) | (with_reducible refine Grew.drew ?_))))) (by omega)).mono ?_); rintro e w3 ⟨rfl, o3, n3, rfl⟩)))
          go_ret
          exact ⟨rfl, by (show Grew _ _; repeat (first | (with_reducible exact Grew.refl _) | (with_reducible assumption) | (with_reducible exact Grew.same_o) | (with_reducible exact Grew.app_o) | (with_reducible refine Grew.ext ?_ _ _) | (with_reducible refine Grew.alloc ?_ _) | ((with_reducible refine Grew.setCell ?_ ?_ _); rotate_left; (focus (dsimp only; first | omega | (simp only [size_ext, World.size_alloc, Array.size_append]; omega)))) | (with_reducible refine Grew.drewN ?_ _) | (with_reducible refine Grew.drew ?_)))⟩
        · obtain ⟨rfl, rfl⟩ := hO.empty ha
          have e4 : errF a = 4 := by unfold errF; rw [if_neg ha]
          have d1 : (a != 0) = true := by simpa using ha
          have d2 : (a == a) = true := by simp
          obtain ⟨a1, c1, rfl⟩ := hv1.shape
          obtain ⟨a2, c2, rfl⟩ := hv2.shape
          clear hO hO2 hef hrf hrof hgt hgd hfl ha
          go_wp2_with (first | (go_at_call 101; ((with_reducible refine (awake15 _).mono ?_); rintro e w9 ⟨rfl, o9, n9, rfl⟩)))
          go_ret
          exact ⟨rfl, by (show Grew _ _; repeat (first | (with_reducible exact Grew.refl _) | (with_reducible assumption) | (with_reducible exact Grew.same_o) | (with_reducible exact Grew.app_o) | (with_reducible refine Grew.ext ?_ _ _) | (with_reducible refine Grew.alloc ?_ _) | ((with_reducible refine Grew.setCell ?_ ?_ _); rotate_left; (focus (dsimp only; first | omega | (simp only [size_ext, World.size_alloc, Array.size_append]; omega)))) | (with_reducible refine Grew.drewN ?_ _) | (with_reducible refine Grew.drew ?_)))⟩
  · rw [hg] at hgt
    clear hgd hg hwf
    go_enter Try.func18, Try.ntmps18
    refine seq_stop ?_
    go_wp2
    refine stop_go (fun W hW => ?_)
    have s1 : w.heap.size < W.heap.size := by rw [hW]; simp only [World.size_alloc]; omega
    have b1 : ∀ i, W.cell? ⟨w.heap.size, i, none⟩ = (#[D, .int .i64 x.off, .int .i64 x.rows, .int .i64 x.cols, .int .i64 x.ld] : Array Value)[i]? := by intro i; rw [hW]; go_simp
    have g0 : Grew w W := by rw [hW]; exact (Grew.refl _).alloc _
    clear hW
    have hDW := hD.grew g0
    go_wp2_with (first | (go_at_call 101; ((with_reducible refine (awake15 _).mono ?_); rintro e w1 ⟨rfl, o1, n1, rfl⟩)) | (go_at_call 42; ((with_reducible refine (hgt _ ?_).mono ?_); (focus (first | (with_reducible assumption) | (with_reducible refine FS.ext ?_ _ _; with_reducible assumption) | (with_reducible refine IS.ext ?_ _ _; with_reducible assumption) | (refine hDu _ ?_; with_reducible assumption) | (refine hOu _ ?_; with_reducible assumption) | (refine hDa _ ?_; with_reducible assumption) | (refine hDb _ ?_; with_reducible assumption) | (refine hDc _ ?_; with_reducible assumption) | (refine hDd _ ?_; with_reducible assumption) | (refine FW.fs ?_ (by omega) _; with_reducible assumption) | (refine WS.fs ?_; with_reducible assumption) | (refine FW.fs ?_ (by omega) _; assumption) | omega | assumption)); rintro e w1 ⟨rfl, o1, n1, rfl⟩)))
    go_ret
    exact ⟨rfl, by (show Grew _ _; repeat (first | (with_reducible exact Grew.refl _) | (with_reducible assumption) | (with_reducible exact Grew.same_o) | (with_reducible exact Grew.app_o) | (with_reducible refine Grew.ext ?_ _ _) | (with_reducible refine Grew.alloc ?_ _) | ((with_reducible refine Grew.setCell ?_ ?_ _); rotate_left; (focus (dsimp only; first | omega | (simp only [size_ext, World.size_alloc, Array.size_append]; omega)))) | (with_reducible refine Grew.drewN ?_ _) | (with_reducible refine Grew.drew ?_)))⟩
end Go.Proofs.Ytcmggfpcbijcjaa
end
section
/-
  A law of copy between slices of floats.
-/
set_option linter.unusedSimpArgs false
set_option linter.unusedVariables false
open Go Go.RowKit Sedge
namespace Go.Proofs.Ytcmggfpcbijcjaa
/-- The row behind a copy. -/
def cpl (ws xs : List Nat) : List Nat := (List.range ws.length).map fun i => if i < xs.length then xs.getD i 0 else ws.getD i 0
theorem cpl_length (ws xs : List Nat) : (cpl ws xs).length = ws.length := by simp [cpl]
theorem cpl_getD (ws xs : List Nat) {i : Nat} (hi : i < ws.length) : (cpl ws xs).getD i 0 = if i < xs.length then xs.getD i 0 else ws.getD i 0 := by
  unfold cpl
  rw [List.getD_eq_getElem?_getD, List.getElem?_map, List.getElem?_range hi]
  rfl
theorem cpl_self {ws xs : List Nat} (h : Nat.min xs.length ws.length = 0) : cpl ws xs = ws := by
  apply List.ext_getElem?
  intro i
  by_cases hi : i < ws.length
  · have hx : xs.length = 0 := by
      rcases Nat.le_total xs.length ws.length with h1 | h1
      · have : Nat.min xs.length ws.length = xs.length := Nat.min_eq_left h1
        omega
      · have : Nat.min xs.length ws.length = ws.length := Nat.min_eq_right h1
        omega
    have h2 := cpl_getD ws xs hi
    rw [if_neg (by omega)] at h2
    rw [List.getD_eq_getElem?_getD, List.getD_eq_getElem?_getD] at h2
    rw [List.getElem?_eq_getElem (by rw [cpl_length]; exact hi), List.getElem?_eq_getElem hi] at h2 ⊢
    simpa using h2
  · rw [List.getElem?_eq_none (by rw [cpl_length]; omega), List.getElem?_eq_none (by omega)]
theorem copyF_K {P : Program} {w : World} {ops : Array Oper} {rest : List Oper} {o : Oper} {a : Act} {Q : Exit → Act → World → Prop} (hgd : o.guard = none) (d s : Operand) (dT sT : TypeId)
    (ho : o.op = .call { callee := .builtin .copy, args := #[d, s], argTypes := #[dT, sT] }) (elem : TypeId) (hu : P.underlying dT = some (.slice elem)) (hsz : (P.info? elem).map (·.size) = some 1)
    (g dCap : Nat) (sp : Option Addr) (sCap : Nat) (ws xs : List Nat) (hd : a.eval d = .slice (some ⟨g, 0, none⟩) ws.length dCap) (hs : a.eval s = .slice sp xs.length sCap)
    (hF : FW w g ws) (hX : FS w (.slice sp xs.length sCap) xs)
    (h : ∀ w', Wrote w w' g (cpl ws xs) → wpList P ops Q rest (a.put o.dst (goInt (Nat.min xs.length ws.length))) w') : wpList P ops Q (o :: rest) a w := by
  by_cases h0 : Nat.min xs.length ws.length = 0
  · refine wpList_copy_nothing hgd d s dT sT ho elem hu hsz _ _ _ _ _ _ hd hs h0 ?_
    have := h w (by rw [cpl_self h0]; exact Wrote.refl hF)
    rw [h0] at this
    exact this
  · have hm1 : Nat.min xs.length ws.length ≤ xs.length := Nat.min_le_left _ _
    have hm2 : Nat.min xs.length ws.length ≤ ws.length := Nat.min_le_right _ _
    obtain ⟨blk, so, rfl, hblk, hc⟩ := hX.at.2 (by omega)
    obtain ⟨f, hf⟩ : ∃ f : Nat → Nat, ∀ j, j < xs.length → w.cell? ⟨blk, so + j, none⟩ = some (.float .f64 (f j)) ∧ IsF (f j) (xs.getD j 0) :=
      ⟨fun j => if hj : j < xs.length then Classical.choose (hc j hj) else 0, fun j hj => by
        simp only [dif_pos hj]; exact Classical.choose_spec (hc j hj)⟩
    obtain ⟨m, hm⟩ : ∃ m, m = Nat.min xs.length ws.length := ⟨_, rfl⟩
    obtain ⟨c, e, hb, hc1, hc2⟩ := hF
    have hlen : ((List.range m).map fun j => Value.float .f64 (f j)).length = m := by simp
    refine wpList_copy_own hgd d s dT sT ho elem hu hsz g 0 ws.length dCap ⟨blk, so, none⟩ xs.length sCap hd hs c e hb ((List.range m).map fun j => .float .f64 (f j)) (by rw [hlen, hm]) ?_ ?_ ?_ ?_
    · intro j v hv
      have hj : j < m := by
        rcases Nat.lt_or_ge j m with h1 | h1
        · exact h1
        · rw [List.getElem?_eq_none (by rw [hlen]; exact h1)] at hv; cases hv
      rw [List.getElem?_map, List.getElem?_range hj] at hv
      obtain rfl : Value.float .f64 (f j) = v := by simpa using hv
      rw [show Addr.add ⟨blk, so, none⟩ j = ⟨blk, so + j, none⟩ by unfold Addr.add; split <;> simp_all]
      exact (hf j (by omega)).1
    · rw [hlen]; omega
    · intro v hv
      simp only [List.mem_map] at hv
      obtain ⟨j, _, rfl⟩ := hv
      rfl
    · rw [hlen, hm]
      refine h _ ⟨_, #[], w.drawn, ext_zero.symm, ?_, ?_⟩
      · rw [cpl_length]
        simp only [List.take_zero, List.nil_append, List.size_toArray, List.length_append, List.length_map, List.length_range, List.length_drop, Array.length_toList]
        omega
      · intro i hi
        rw [cpl_length] at hi
        rw [cpl_getD _ _ hi]
        simp only [List.take_zero, List.nil_append, List.getElem?_toArray]
        by_cases hx : i < xs.length
        · have him : i < m := by
            rw [hm]
            exact Nat.lt_min.2 ⟨hx, hi⟩
          rw [if_pos hx, List.getElem?_append_left (by rw [List.length_map, List.length_range, ← hm]; exact him), List.getElem?_map, List.getElem?_range (by rw [← hm]; exact him)]
          exact ⟨_, rfl, (hf i hx).2⟩
        · rw [if_neg hx]
          have him : m ≤ i := by
            rw [hm]
            exact Nat.le_trans hm1 (by omega)
          rw [List.getElem?_append_right (by rw [List.length_map, List.length_range, ← hm]; exact him), List.length_map, List.length_range, ← hm, List.getElem?_drop, Nat.zero_add, show m + (i - m) = i by omega, Array.getElem?_toList]
          exact hc2 i hi
theorem copyF_K' {P : Program} {w : World} {ops : Array Oper} {rest : List Oper} {o : Oper} {a : Act} {Q : Exit → Act → World → Prop} (hgd : o.guard = none) (d s : Operand) (dT sT : TypeId)
    (ho : o.op = .call { callee := .builtin .copy, args := #[d, s], argTypes := #[dT, sT] }) (elem : TypeId) (hu : P.underlying dT = some (.slice elem)) (hsz : (P.info? elem).map (·.size) = some 1)
    (g dLen dCap : Nat) (sp : Option Addr) (sLen sCap : Nat) (ws xs : List Nat) (hd : a.eval d = .slice (some ⟨g, 0, none⟩) dLen dCap) (hs : a.eval s = .slice sp sLen sCap) (hl : ws.length = dLen)
    (hF : FW w g ws) (hX : FS w (.slice sp sLen sCap) xs)
    (h : ∀ w' z, Wrote w w' g (cpl ws xs) → wpList P ops Q rest (a.put o.dst (goInt z)) w') : wpList P ops Q (o :: rest) a w := by
  have e := hX.at.1
  subst hl e
  exact copyF_K hgd d s dT sT ho elem hu hsz g dCap sp sCap ws xs hd hs hF hX fun w' hw => h w' _ hw
end Go.Proofs.Ytcmggfpcbijcjaa
end
section
/-
  Contract: view.Dense of no numbers.
-/
set_option linter.unusedSimpArgs false
set_option linter.unusedVariables false
open Go Go.RowKit Sedge
namespace Go.Proofs.Ytcmggfpcbijcjaa
set_option maxRecDepth 100000 in
set_option maxHeartbeats 1000000 in
/-- view.Dense, without numbers. -/
theorem dense0k_any (r c : Nat) (w : World) (hr : r ≤ 64) (hc : c ≤ 64) (hr1 : 1 ≤ r) :
   Calls Try.prog 69 #[.int .i64 r, .int .i64 c, .slice none 0 0] w (fun e w' => ∃ k, e = .returned (.agg #[.slice (some ⟨k, 0, none⟩) (r * c) (r * c), .int .i64 0, .int .i64 r, .int .i64 c, .int .i64 r]) ∧ w.heap.size ≤ k ∧ FW w' k (List.replicate (r * c) 0) ∧ ∃ o n, w' = ext w o n) := by
  have hm : r * c ≤ 64 * 64 := Nat.mul_le_mul hr hc
  have h2 : IntKind.i64.wrap ((r : Int) * c) = (r : Int) * c := IntWalk.i64_in _ (by rw [← Int.natCast_mul]; omega)
  have d1 : decide ((r : Int) < 0) = false := by simp
  have d2 : decide ((c : Int) < 0) = false := by simp
  have d3 : decide ((64 : Int) < (r : Int)) = false := by simp; omega
  have d4 : decide ((64 : Int) < (c : Int)) = false := by simp; omega
  have d6 : decide ((1 : Int) ≤ (r : Int)) = true := by simp; omega
  have d7 : (0 : Int) ≤ (r : Int) * c := by rw [← Int.natCast_mul]; omega
  go_enter Try.func69, Try.ntmps69
  refine seq_stop ?_
  go_wp2
  refine stop_go (fun W hW => ?_)
  have s1 : w.heap.size < W.heap.size := by rw [hW]; simp only [World.size_alloc]; omega
  have b1 : ∀ i, W.cell? ⟨w.heap.size, i, none⟩ = (#[.slice none 0 0, .int .i64 0, .int .i64 0, .int .i64 0, .int .i64 0] : Array Value)[i]? := by intro i; rw [hW]; go_simp
  have f1 : ∀ i, W.frozen? ⟨w.heap.size, i, none⟩ = false := by intro i; rw [hW]; go_simp
  have g0 : Grew w W := by rw [hW]; exact (Grew.refl _).alloc _
  clear hW
  go_wp2_with (at_make; refine make_f (L := (r : Int) * (c : Int)) finfo (Grew.refl W) _ _ rfl rfl (r * c) (Int.natCast_mul r c).symm rfl rfl (by omega) ?_; intro oo nn k hk ho; have hF := ho.made)
  refine name_any (fun V hV => ?_)
  have gV : Grew W V := by rw [← hV]; (show Grew _ _; repeat (first | (with_reducible exact Grew.refl _) | (with_reducible assumption) | (with_reducible exact Grew.same_o) | (with_reducible exact Grew.app_o) | (with_reducible refine Grew.ext ?_ _ _) | (with_reducible refine Grew.alloc ?_ _) | ((with_reducible refine Grew.setCell ?_ ?_ _); rotate_left; (focus (dsimp only; first | omega | (simp only [size_ext, World.size_alloc, Array.size_append]; omega)))) | (with_reducible refine Grew.drewN ?_ _) | (with_reducible refine Grew.drew ?_)))
  have sV := gV.below.size
  have k1 : w.heap.size < V.heap.size := by omega
  have k3 : W.heap.size + oo.size < V.heap.size := by rw [← hV]; simp only [World.size_alloc, size_ext]; omega
  have c3 : ∀ i, V.cell? ⟨W.heap.size + oo.size, i, none⟩ = (#[.slice (some ⟨k, 0, none⟩) (r * c) (r * c), .int .i64 0, .int .i64 r, .int .i64 c, .int .i64 r] : Array Value)[i]? := by subst hV; intro i; go_simp
  have c1 : ∀ i, V.cell? ⟨w.heap.size, i, none⟩ = (#[.slice none 0 0, .int .i64 0, .int .i64 0, .int .i64 0, .int .i64 0] : Array Value)[i]? := fun i => (gV.cell s1).trans (b1 i)
  have z1 : ∀ i, V.frozen? ⟨w.heap.size, i, none⟩ = false := fun i => (gV.frozen s1).trans (f1 i)
  have hFV : FW V k (List.replicate (r * c) 0) := by rw [← hV]; (repeat (first | (with_reducible assumption) | ((with_reducible refine FW.ext_set ?_ ?_ ?_ _); rotate_left; (focus (simp only [size_setCell', World.size_alloc, size_ext, size_upd]; omega)); (focus (dsimp only; omega))) | ((with_reducible refine FW.setCell_ne ?_ ?_ _); rotate_left; (focus (dsimp only; omega))) | (with_reducible refine FW.ext ?_ _ _) | (with_reducible refine FW.alloc ?_ _)))
  clear hV b1 f1 ho
  go_loopw [43] (fun s wr => s = .int .i64 0 ∧ wr = V) (fun s _ => 0)
  case atStart => exact ⟨rfl, rfl⟩
  case round =>
    obtain ⟨rfl, rfl⟩ := hrel
    go_wp2
    refine bodyPost_ret (v := .agg #[.slice (some ⟨k, 0, none⟩) (r * c) (r * c), .int .i64 0, .int .i64 r, .int .i64 c, .int .i64 r]) (by simp [results, Try.results69, go_sem, *]) rfl ?_
    have g1 := Grew.trans g0 gV
    exact ⟨k, rfl, by omega, by (repeat (first | (with_reducible assumption) | ((with_reducible refine FW.ext_set ?_ ?_ ?_ _); rotate_left; (focus (simp only [size_setCell', World.size_alloc, size_ext, size_upd]; omega)); (focus (dsimp only; omega))) | ((with_reducible refine FW.setCell_ne ?_ ?_ _); rotate_left; (focus (dsimp only; omega))) | (with_reducible refine FW.ext ?_ _ _) | (with_reducible refine FW.alloc ?_ _))), by (show Grew _ _; repeat (first | (with_reducible exact Grew.refl _) | (with_reducible assumption) | (with_reducible exact Grew.same_o) | (with_reducible exact Grew.app_o) | (with_reducible refine Grew.ext ?_ _ _) | (with_reducible refine Grew.alloc ?_ _) | ((with_reducible refine Grew.setCell ?_ ?_ _); rotate_left; (focus (dsimp only; first | omega | (simp only [size_ext, World.size_alloc, Array.size_append]; omega)))) | (with_reducible refine Grew.drewN ?_ _) | (with_reducible refine Grew.drew ?_)))⟩
end Go.Proofs.Ytcmggfpcbijcjaa
end
section
/-
  Plain: matrices that are laid out whole.
-/
set_option linter.unusedSimpArgs false
set_option linter.unusedVariables false
open Go Go.RowKit Sedge
namespace Go.Proofs.Ytcmggfpcbijcjaa
theorem place_inj {r i j a b : Nat} (hi : i < r) (ha : a < r) (h : i + j * r = a + b * r) : i = a ∧ j = b := by
  have h1 : (i + j * r) % r = i := by rw [Nat.add_mul_mod_self_right, Nat.mod_eq_of_lt hi]
  have h2 : (a + b * r) % r = a := by rw [Nat.add_mul_mod_self_right, Nat.mod_eq_of_lt ha]
  have e : i = a := by rw [← h1, h, h2]
  subst e
  have h3 : j * r = b * r := by omega
  exact ⟨rfl, Nat.eq_of_mul_eq_mul_right (by omega) h3⟩
theorem getD_set_self {l : List Nat} {k v : Nat} (h : k < l.length) : (l.set k v).getD k 0 = v := by
  rw [List.getD_eq_getElem?_getD, List.getElem?_set_self h]; rfl
theorem getD_set_ne {l : List Nat} {k m v : Nat} (h : k ≠ m) : (l.set k v).getD m 0 = l.getD m 0 := by
  rw [List.getD_eq_getElem?_getD, List.getElem?_set_ne h, ← List.getD_eq_getElem?_getD]
theorem place_lt2 {r c i j : Nat} (hi : i < r) (hj : j < c) : i + j * r < r * c := by
  have := Nat.mul_le_mul_right r (show j + 1 ≤ c by omega)
  rw [Nat.add_mul, Nat.mul_comm c r] at this; omega
theorem matd_good {L : List Nat} {r c : Nat} (h : L.length = r * c) (hr : 1 ≤ r) (hc : 1 ≤ c) : MatM.good ⟨L, 0, r, c, r⟩ = true := by
  simp only [MatM.good, fitsB, h, Bool.and_eq_true, Bool.or_eq_true, decide_eq_true_eq]
  have : ((c : Int) - 1) * r + ((r : Int) - 1) < (r * c : Nat) := by rw [Int.sub_mul, Int.one_mul, Int.natCast_mul, Int.mul_comm]; omega
  refine ⟨by omega, .inr ⟨by omega, by omega⟩⟩
theorem matd_place {L : List Nat} {r c i j : Nat} : MatM.place ⟨L, 0, r, c, r⟩ i j = i + j * r := by
  unfold MatM.place
  simp only
  rw [Int.zero_add, ← Int.natCast_mul, ← Int.natCast_add, Int.toNat_natCast]
end Go.Proofs.Ytcmggfpcbijcjaa
end
