/-
  Texts laid one behind the other (a claim has at most 60 files): Lac6, Lac7, Gemv3, MatD, TurnP, Gemm1, Dense0, Turn1, Turn2, Lac8.
-/
import Derived.Deep.CutBlock
import Derived.Deep.DeepCutAuto
import Derived.Test.YtcmggfpcbijcjaaQLacnBelow1
import Derived.Test.YtcmggfpcbijcjaaQLacnBelow2
import Derived.Test.YtcmggfpcbijcjaaQLacnBelow3
import Derived.Test.YtcmggfpcbijcjaaQLacnBelow4
section
/-
  Contracts for LacnBelow: the machine's Next (189): again, last.
-/
set_option linter.unusedSimpArgs false
set_option linter.unusedVariables false
open Go Go.RowKit Sedge
namespace Go.Proofs.Ytcmggfpcbijcjaa
set_option maxRecDepth 100000 in
set_option maxHeartbeats 2000000 in
theorem next_again1 (n p E j c : Nat) (S : List Nat) (h1 : 2 ≤ n) (h2 : n ≤ 12) (w : World) (XL : List Nat) (gx cx : Nat) (hX : FW w gx XL) (hXL : XL.length = n) (ngx : gx ≠ p) (hj : j < n) (hc : c < 5) (hfe : feq (fabs (XL.getD j 0)) (fabs (XL.getD (mostW XL) 0)) = false) (hm : MS w p n ⟨4, E, S, j, c⟩) :
    Calls Try.prog 189 #[.pointer (some ⟨p, 0, none⟩), .slice (some ⟨gx, 0, none⟩) n cx] w (NextPost p n w ⟨3, E, S, mostW XL, c + 1⟩ ((List.range n).map (unitW (mostW XL))) 1) := by
  have d5 : decide ((c : Int) < 5) = true := by simp; omega
  obtain ⟨Eb, va, vn, vc, sa, sn, sc, hp0, hE, hS, hnb⟩ := hm
  have hp : Box w p #[.int .i64 n, .int .i64 4, .float .f64 Eb, .slice va vn vc, .slice sa sn sc, .int .i64 j, .int .i64 c] := hp0
  have hmw : mostW XL < n := by rw [← hXL]; exact mostW_lt (by omega)
  have hcmp : ∀ ra rb, IsF ra (fabs (XL.getD j 0)) → IsF rb (fabs (XL.getD (mostW XL) 0)) → (FloatKind.f64.format.order ra rb != some Ordering.eq) = !(feq (fabs (XL.getD j 0)) (fabs (XL.getD (mostW XL) 0))) := fun ra rb h1 h2 => by
    rw [show FloatKind.f64.format.order ra rb = D64.order (fabs (XL.getD j 0)) (fabs (XL.getD (mostW XL) 0)) from h1.order h2]
    unfold feq bne; rfl
  rw [hfe] at hcmp
  simp only [Bool.not_false, Bool.not_true] at hcmp
  have hw1 : IntKind.i64.wrap ((c : Int) + 1) = (c : Int) + 1 := IntWalk.i64_in _ (by omega)
  clear hfe
  have fxs : ∀ w', FW w' gx XL → FS w' (.slice (some ⟨gx, 0, none⟩) n cx) XL := fun w' h => by have := h.fs (by omega) cx; rw [hXL] at this; exact this
  have d0 : ((n : Int) == 0) = false := by simp; omega
  have d2 : ((n : Int) != (n : Int)) = false := by simp
  clear hp0
  go_enter Try.func189, Try.ntmps189
  refine seq_stop ?_
  go_wp2
  refine stop_go (fun W hW => ?_)
  have s1 : w.heap.size < W.heap.size := by rw [hW]; simp only [World.size_alloc]; omega
  have b1 : ∀ i, W.cell? ⟨w.heap.size, i, none⟩ = (#[.pointer (some ⟨p, 0, none⟩)] : Array Value)[i]? := by intro i; rw [hW]; go_simp
  have X1 : Box W (w.heap.size) #[.pointer (some ⟨p, 0, none⟩)] := by rw [hW]; exact Box.new' (by first | rfl | (simp only [World.size_alloc]; done) | (simp only [World.size_alloc]; omega))
  have f1 : ∀ i, W.frozen? ⟨w.heap.size, i, none⟩ = false := by intro i; rw [hW]; go_simp
  have g0 : Grew w W := by rw [hW]; exact (Grew.refl _).alloc _
  clear hW
  have hpW := hp.grew g0
  have tp := hpW.cell
  have lpW := hpW.lt
  have lp := hp.lt
  have nq : w.heap.size ≠ p := by omega
  have hXW := hX.grew g0
  have hnv : Calls Try.prog 205 #[.slice (some ⟨gx, 0, none⟩) n cx] W (fun e w2 => ∃ r q, e = .returned (.tuple #[.float .f64 r, .float .f64 q]) ∧ IsF r (sumW XL) ∧ Grew W w2) := nvec_any _ XL W (fxs _ hXW) (by omega)
  have hcl : ∀ w', Grew W w' → Calls Try.prog 208 #[.slice (some ⟨gx, 0, none⟩) n cx] w' (fun e w2 => ∃ a n c, e = .returned (.slice a n c) ∧ Grew w' w2) := fun w' g => sclone_any _ XL w' (fxs _ (hXW.grew g)) (by omega) (by omega)
  have hvc : ∀ w', Calls Try.prog 190 #[.slice (some ⟨gx, 0, none⟩) n cx] w' (fun e w2 => e = .returned (.agg #[.slice (some ⟨gx, 0, none⟩) n cx, .int .i64 0, .int .i64 n, .int .i64 1]) ∧ Grew w' w2) := fun w' => lvec_any _ n cx w'
  clear f1
  go_upto_region 26 with (first | (go_at_call 205; ((with_reducible refine hnv.mono ?_); rintro e w1 ⟨r, qq, rfl, hr, gw1⟩; (have hp1 := hpW.grew gw1); (have tp1 := hp1.cell); (have lp1 := hp1.lt); (have fp1 := hp1.frozen); (have xq1 := (X1.grew gw1).cell); (have xl1 := (X1.grew gw1).lt))))
  refine wp_region_R (Grew w1) [9] [(0,0), (3,1), (1,2), (1,3), (3,4), (3,5), (3,6), (3,7), (3,8), (2,9)] (by kernel_rfl) (by kernel_rfl) (fun _ _ _ _ h _ => h) (by first | exact ⟨_, _, ext_drew⟩ | exact ⟨_, _, drew_ext0⟩ | (show Grew _ _; repeat (first | (with_reducible exact Grew.refl _) | (with_reducible assumption) | (with_reducible exact Grew.same_o) | (with_reducible exact Grew.app_o) | (with_reducible refine Grew.ext ?_ _ _) | (with_reducible refine Grew.alloc ?_ _) | ((with_reducible refine Grew.setCell ?_ ?_ _); rotate_left; (focus (dsimp only; first | omega | (simp only [size_ext, World.size_alloc, Array.size_append]; omega)))) | (with_reducible refine Grew.drewN ?_ _) | (with_reducible refine Grew.drew ?_)))) ?_
  go_upto_region 27 with (first | ((with_reducible refine wpR_id ?_); first | (refine wpR_take (v := ?_) rfl rfl ?_ ?_; rotate_left; (focus (rintro w' ⟨o', n', rfl⟩; go_simp; try with_reducible rfl)); simp only [Act.put, List.setIfInBounds_toArray, List.set_cons_zero, List.set_cons_succ]) | (refine wpR_pure (v := ?_) rfl rfl ?_ ?_; rotate_left; (focus (intro w'; go_simp; try with_reducible rfl)); simp only [Act.put, List.setIfInBounds_toArray, List.set_cons_zero, List.set_cons_succ]) | (refine wpR_takeG (v := ?_) rfl rfl rfl rfl rfl ?_ ?_; rotate_left; (focus (rintro w' ⟨o', n', rfl⟩; go_simp; try with_reducible rfl)); simp only [Act.put, List.setIfInBounds_toArray, List.set_cons_zero, List.set_cons_succ]) | (refine wpR_skip rfl rfl rfl rfl rfl rfl ?_; simp only [Act.put, List.setIfInBounds_toArray, List.set_cons_zero, List.set_cons_succ]) | (refine wpR_skipU rfl rfl rfl rfl rfl ?_; simp only [Act.put, List.setIfInBounds_toArray, List.set_cons_zero, List.set_cons_succ]) | (refine wpR_do rfl rfl (fun K hK => ?_)) | (refine wpR_doG rfl rfl rfl rfl rfl (fun K hK => ?_)) | (refine wpR_last rfl rfl (fun K hK => ?_)) | (refine wpR_nil ?_)) | ((with_reducible refine wpR_go ?_ ?_); (focus (show Grew _ _; repeat (first | (with_reducible exact Grew.refl _) | (with_reducible assumption) | (with_reducible exact Grew.same_o) | (with_reducible exact Grew.app_o) | (with_reducible refine Grew.ext ?_ _ _) | (with_reducible refine Grew.alloc ?_ _) | ((with_reducible refine Grew.setCell ?_ ?_ _); rotate_left; (focus (dsimp only; first | omega | (simp only [size_ext, World.size_alloc, Array.size_append]; omega)))) | (with_reducible refine Grew.drewN ?_ _) | (with_reducible refine Grew.drew ?_))))) | ((with_reducible refine upon_id ?_); refine upon_fop rfl (by assumption) (by assumption) ?_; intro rr nn hr) | (go_at_call 190; ((with_reducible refine (hvc _).mono ?_); rintro e w2 ⟨rfl, gw2⟩; (have gw3 : Grew w1 w2 := Grew.trans (by (show Grew _ _; (try simp only [← Array.append_assoc]); repeat (first | (with_reducible exact Grew.same_o) | (with_reducible exact Grew.refl _) | (with_reducible assumption) | (with_reducible refine Grew.alloc ?_ _) | (with_reducible refine Grew.app_r ?_) | ((with_reducible refine Grew.setCell ?_ ?_ _); rotate_left; (focus (dsimp only; first | omega | (simp only [size_ext, World.size_alloc, Array.size_append]; omega)))) | (with_reducible refine Grew.ext ?_ _ _) | (with_reducible refine Grew.drewN ?_ _) | (with_reducible refine Grew.drew ?_)))) gw2); (have hp2 := hp1.grew gw3); (have tp2 := hp2.cell); (have lp2 := hp2.lt); (have fp2 := hp2.frozen))) | (go_at_call 127; ((with_reducible refine (most_w n (.slice (some ⟨gx, 0, none⟩) n cx) XL _ (fxs _ (hXW.grew (Grew.trans gw1 (by (show Grew _ _; (try simp only [← Array.append_assoc]); repeat (first | (with_reducible exact Grew.same_o) | (with_reducible exact Grew.refl _) | (with_reducible assumption) | (with_reducible refine Grew.alloc ?_ _) | (with_reducible refine Grew.app_r ?_) | ((with_reducible refine Grew.setCell ?_ ?_ _); rotate_left; (focus (dsimp only; first | omega | (simp only [size_ext, World.size_alloc, Array.size_append]; omega)))) | (with_reducible refine Grew.ext ?_ _ _) | (with_reducible refine Grew.drewN ?_ _) | (with_reducible refine Grew.drew ?_))))))) hXL (by omega) h2).mono ?_); rintro e w3 ⟨rfl, gm⟩; (have gw5 : Grew w1 w3 := Grew.trans (by (show Grew _ _; (try simp only [← Array.append_assoc]); repeat (first | (with_reducible exact Grew.same_o) | (with_reducible exact Grew.refl _) | (with_reducible assumption) | (with_reducible refine Grew.alloc ?_ _) | (with_reducible refine Grew.app_r ?_) | ((with_reducible refine Grew.setCell ?_ ?_ _); rotate_left; (focus (dsimp only; first | omega | (simp only [size_ext, World.size_alloc, Array.size_append]; omega)))) | (with_reducible refine Grew.ext ?_ _ _) | (with_reducible refine Grew.drewN ?_ _) | (with_reducible refine Grew.drew ?_)))) (show Grew _ _ from gm)); (have hp3 := hp1.grew gw5); (have tp3 := hp3.cell); (have lp3 := hp3.lt); (have fp3 := hp3.frozen))))
  refine name_any (fun V hV => ?_)
  have PV : Box V p #[.int .i64 n, .int .i64 4, .float .f64 Eb, .slice va vn vc, .slice sa sn sc, .int .i64 (mostW XL), .int .i64 c] := by rw [← hV]; exact hp3.setC 5 _
  have BV : But w3 [p] V := by rw [← hV]; exact (But.refl _ _).setP _
  clear hV
  have gz := gw5
  have BwV : But w [p] V := (But.gr (Grew.trans g0 (Grew.trans gw1 gz))).tr BV
  have zV := BwV.size
  have XV := Box.but2 (X1.grew (Grew.trans gw1 gz)) BV (by simp; omega)
  have FV : FW V gx XL := BV.fw (hXW.grew (Grew.trans gw1 gz)) (by simp; omega)
  have tv := PV.cell
  have lv := PV.lt
  have fv := PV.frozen
  have xv := XV.cell
  have lxv := XV.lt
  obtain ⟨b1, hb1, hx1⟩ := FV.get (i := j) (by omega)
  obtain ⟨b2, hb2, hx2⟩ := FV.get (i := mostW XL) (by omega)
  have lgx := FV.lt
  refine wp_region_R (Grew V) [] [(0,0), (0,1), (0,2), (0,3), (0,5), (0,6), (0,7), (0,8), (0,9), (0,10), (0,11), (1,4), (1,12), (0,13), (0,14), (0,15), (0,16), (0,17), (0,18), (0,19), (0,20)] (by kernel_rfl) (by kernel_rfl) (fun _ _ _ _ h _ => h) (by first | exact ⟨_, _, ext_drew⟩ | exact ⟨_, _, drew_ext0⟩ | (show Grew _ _; repeat (first | (with_reducible exact Grew.refl _) | (with_reducible assumption) | (with_reducible exact Grew.same_o) | (with_reducible exact Grew.app_o) | (with_reducible refine Grew.ext ?_ _ _) | (with_reducible refine Grew.alloc ?_ _) | ((with_reducible refine Grew.setCell ?_ ?_ _); rotate_left; (focus (dsimp only; first | omega | (simp only [size_ext, World.size_alloc, Array.size_append]; omega)))) | (with_reducible refine Grew.drewN ?_ _) | (with_reducible refine Grew.drew ?_)))) ?_
  go_upto_region 28 with (first | ((with_reducible refine wpR_id ?_); first | (refine wpR_take (v := ?_) rfl rfl ?_ ?_; rotate_left; (focus (rintro w' ⟨o', n', rfl⟩; go_simp; try with_reducible rfl)); simp only [Act.put, List.setIfInBounds_toArray, List.set_cons_zero, List.set_cons_succ]) | (refine wpR_pure (v := ?_) rfl rfl ?_ ?_; rotate_left; (focus (intro w'; go_simp; try with_reducible rfl)); simp only [Act.put, List.setIfInBounds_toArray, List.set_cons_zero, List.set_cons_succ]) | (refine wpR_takeG (v := ?_) rfl rfl rfl rfl rfl ?_ ?_; rotate_left; (focus (rintro w' ⟨o', n', rfl⟩; go_simp; try with_reducible rfl)); simp only [Act.put, List.setIfInBounds_toArray, List.set_cons_zero, List.set_cons_succ]) | (refine wpR_skip rfl rfl rfl rfl rfl rfl ?_; simp only [Act.put, List.setIfInBounds_toArray, List.set_cons_zero, List.set_cons_succ]) | (refine wpR_skipU rfl rfl rfl rfl rfl ?_; simp only [Act.put, List.setIfInBounds_toArray, List.set_cons_zero, List.set_cons_succ]) | (refine wpR_do rfl rfl (fun K hK => ?_)) | (refine wpR_doG rfl rfl rfl rfl rfl (fun K hK => ?_)) | (refine wpR_last rfl rfl (fun K hK => ?_)) | (refine wpR_nil ?_)) | ((with_reducible refine wpR_go ?_ ?_); (focus (show Grew _ _; repeat (first | (with_reducible exact Grew.refl _) | (with_reducible assumption) | (with_reducible exact Grew.same_o) | (with_reducible exact Grew.app_o) | (with_reducible refine Grew.ext ?_ _ _) | (with_reducible refine Grew.alloc ?_ _) | ((with_reducible refine Grew.setCell ?_ ?_ _); rotate_left; (focus (dsimp only; first | omega | (simp only [size_ext, World.size_alloc, Array.size_append]; omega)))) | (with_reducible refine Grew.drewN ?_ _) | (with_reducible refine Grew.drew ?_))))) | ((with_reducible refine upon_id ?_); refine upon_fop rfl (by assumption) (by assumption) ?_; intro rr nn hr) | (go_at_call 164; ((with_reducible refine (mabs_any b1 _ _ hx1).mono ?_); rintro e w4 ⟨ra, rfl, hra, rfl⟩)) | (go_at_call 164; ((with_reducible refine (mabs_any b2 _ _ hx2).mono ?_); rintro e w4 ⟨rb, rfl, hrb, rfl⟩; (have e3 := hcmp _ _ hra hrb))))
  refine name_any (fun V1 hV1 => ?_)
  have gV1 : Grew V V1 := by rw [← hV1]; (show Grew _ _; (try simp only [← Array.append_assoc]); repeat (first | (with_reducible exact Grew.same_o) | (with_reducible exact Grew.refl _) | (with_reducible assumption) | (with_reducible refine Grew.alloc ?_ _) | (with_reducible refine Grew.app_r ?_) | ((with_reducible refine Grew.setCell ?_ ?_ _); rotate_left; (focus (dsimp only; first | omega | (simp only [size_ext, World.size_alloc, Array.size_append]; omega)))) | (with_reducible refine Grew.ext ?_ _ _) | (with_reducible refine Grew.drewN ?_ _) | (with_reducible refine Grew.drew ?_)))
  have PV1 := PV.grew gV1
  have XV1 := XV.grew gV1
  have tv1 := PV1.cell
  have lv1 := PV1.lt
  have fv1 := PV1.frozen
  have xv1 := XV1.cell
  have lxv1 := XV1.lt
  clear hV1 hb1 hb2
  go_upto_region 29 with fail
  refine name_any (fun V2 hV2 => ?_)
  have PV2 : Box V2 p #[.int .i64 n, .int .i64 4, .float .f64 Eb, .slice va vn vc, .slice sa sn sc, .int .i64 (mostW XL), .int .i64 ((c : Int) + 1)] := by rw [← hV2]; exact PV1.setC 6 _
  have BV2 : But V1 [p] V2 := by rw [← hV2]; exact (But.refl _ _).setP _
  clear hV2
  have zV2 := BV2.size
  have z1 := gV1.below.size
  have XV2 := Box.but2 XV1 BV2 (by simp; omega)
  have xv2 := XV2.cell
  have lxv2 := XV2.lt
  have huni := unit_ok n p (by omega) h2 Eb va sa vn vc sn sc 4 ((c : Int) + 1) (mostW XL) V2 PV2
  go_wp2_with (first | (go_at_call 210; ((with_reducible refine huni.mono ?_); rintro e w4 ⟨g, rfl, hz, hF, hB, hX2⟩)))
  refine bodyPost_ret (v := .tuple #[.slice (some ⟨g, 0, none⟩) n n, .int .i64 1]) (by simp [results, Try.results189, go_sem, *]) rfl ?_
  have BB := ((BwV.grew gV1).tr BV2).tr hB
  exact ⟨fun _ => ⟨g, rfl, by omega, hF⟩, (fun h => by cases h), BB, ⟨Eb, va, vn, vc, sa, sn, sc, hX2, hE, keepS hS hnb BB, hnb⟩⟩
set_option maxRecDepth 100000 in
set_option maxHeartbeats 2000000 in
theorem next_again2a (n p E j c : Nat) (S : List Nat) (h1 : 2 ≤ n) (h2 : n ≤ 12) (w : World) (XL : List Nat) (gx cx : Nat) (hX : FW w gx XL) (hXL : XL.length = n) (ngx : gx ≠ p) (hj : j < n) (hc : c ≤ 5) (hfe : feq (fabs (XL.getD j 0)) (fabs (XL.getD (mostW XL) 0)) = true) (hm : MS w p n ⟨4, E, S, j, c⟩) : Calls Try.prog 189 #[.pointer (some ⟨p, 0, none⟩), .slice (some ⟨gx, 0, none⟩) n cx] w (NextPost p n w ⟨5, E, S, mostW XL, c⟩ ((List.range n).map (lastW n)) 1) := by
  obtain ⟨Eb, va, vn, vc, sa, sn, sc, hp0, hE, hS, hnb⟩ := hm
  have hp : Box w p #[.int .i64 n, .int .i64 4, .float .f64 Eb, .slice va vn vc, .slice sa sn sc, .int .i64 j, .int .i64 c] := hp0
  have hmw : mostW XL < n := by rw [← hXL]; exact mostW_lt (by omega)
  have hcmp : ∀ ra rb, IsF ra (fabs (XL.getD j 0)) → IsF rb (fabs (XL.getD (mostW XL) 0)) → (FloatKind.f64.format.order ra rb != some Ordering.eq) = !(feq (fabs (XL.getD j 0)) (fabs (XL.getD (mostW XL) 0))) := fun ra rb h1 h2 => by
    rw [show FloatKind.f64.format.order ra rb = D64.order (fabs (XL.getD j 0)) (fabs (XL.getD (mostW XL) 0)) from h1.order h2]
    unfold feq bne; rfl
  rw [hfe] at hcmp
  simp only [Bool.not_false, Bool.not_true] at hcmp
  have hw1 : IntKind.i64.wrap ((c : Int) + 1) = (c : Int) + 1 := IntWalk.i64_in _ (by omega)
  clear hfe
  have fxs : ∀ w', FW w' gx XL → FS w' (.slice (some ⟨gx, 0, none⟩) n cx) XL := fun w' h => by have := h.fs (by omega) cx; rw [hXL] at this; exact this
  have d0 : ((n : Int) == 0) = false := by simp; omega
  have d2 : ((n : Int) != (n : Int)) = false := by simp
  clear hp0
  go_enter Try.func189, Try.ntmps189
  refine seq_stop ?_
  go_wp2
  refine stop_go (fun W hW => ?_)
  have s1 : w.heap.size < W.heap.size := by rw [hW]; simp only [World.size_alloc]; omega
  have b1 : ∀ i, W.cell? ⟨w.heap.size, i, none⟩ = (#[.pointer (some ⟨p, 0, none⟩)] : Array Value)[i]? := by intro i; rw [hW]; go_simp
  have X1 : Box W (w.heap.size) #[.pointer (some ⟨p, 0, none⟩)] := by rw [hW]; exact Box.new' (by first | rfl | (simp only [World.size_alloc]; done) | (simp only [World.size_alloc]; omega))
  have f1 : ∀ i, W.frozen? ⟨w.heap.size, i, none⟩ = false := by intro i; rw [hW]; go_simp
  have g0 : Grew w W := by rw [hW]; exact (Grew.refl _).alloc _
  clear hW
  have hpW := hp.grew g0
  have tp := hpW.cell
  have lpW := hpW.lt
  have lp := hp.lt
  have nq : w.heap.size ≠ p := by omega
  have hXW := hX.grew g0
  have hnv : Calls Try.prog 205 #[.slice (some ⟨gx, 0, none⟩) n cx] W (fun e w2 => ∃ r q, e = .returned (.tuple #[.float .f64 r, .float .f64 q]) ∧ IsF r (sumW XL) ∧ Grew W w2) := nvec_any _ XL W (fxs _ hXW) (by omega)
  have hcl : ∀ w', Grew W w' → Calls Try.prog 208 #[.slice (some ⟨gx, 0, none⟩) n cx] w' (fun e w2 => ∃ a n c, e = .returned (.slice a n c) ∧ Grew w' w2) := fun w' g => sclone_any _ XL w' (fxs _ (hXW.grew g)) (by omega) (by omega)
  have hvc : ∀ w', Calls Try.prog 190 #[.slice (some ⟨gx, 0, none⟩) n cx] w' (fun e w2 => e = .returned (.agg #[.slice (some ⟨gx, 0, none⟩) n cx, .int .i64 0, .int .i64 n, .int .i64 1]) ∧ Grew w' w2) := fun w' => lvec_any _ n cx w'
  clear f1
  go_upto_region 26 with (first | (go_at_call 205; ((with_reducible refine hnv.mono ?_); rintro e w1 ⟨r, qq, rfl, hr, gw1⟩; (have hp1 := hpW.grew gw1); (have tp1 := hp1.cell); (have lp1 := hp1.lt); (have fp1 := hp1.frozen); (have xq1 := (X1.grew gw1).cell); (have xl1 := (X1.grew gw1).lt))))
  refine wp_region_R (Grew w1) [9] [(0,0), (3,1), (1,2), (1,3), (3,4), (3,5), (3,6), (3,7), (3,8), (2,9)] (by kernel_rfl) (by kernel_rfl) (fun _ _ _ _ h _ => h) (by first | exact ⟨_, _, ext_drew⟩ | exact ⟨_, _, drew_ext0⟩ | (show Grew _ _; repeat (first | (with_reducible exact Grew.refl _) | (with_reducible assumption) | (with_reducible exact Grew.same_o) | (with_reducible exact Grew.app_o) | (with_reducible refine Grew.ext ?_ _ _) | (with_reducible refine Grew.alloc ?_ _) | ((with_reducible refine Grew.setCell ?_ ?_ _); rotate_left; (focus (dsimp only; first | omega | (simp only [size_ext, World.size_alloc, Array.size_append]; omega)))) | (with_reducible refine Grew.drewN ?_ _) | (with_reducible refine Grew.drew ?_)))) ?_
  go_upto_region 27 with (first | ((with_reducible refine wpR_id ?_); first | (refine wpR_take (v := ?_) rfl rfl ?_ ?_; rotate_left; (focus (rintro w' ⟨o', n', rfl⟩; go_simp; try with_reducible rfl)); simp only [Act.put, List.setIfInBounds_toArray, List.set_cons_zero, List.set_cons_succ]) | (refine wpR_pure (v := ?_) rfl rfl ?_ ?_; rotate_left; (focus (intro w'; go_simp; try with_reducible rfl)); simp only [Act.put, List.setIfInBounds_toArray, List.set_cons_zero, List.set_cons_succ]) | (refine wpR_takeG (v := ?_) rfl rfl rfl rfl rfl ?_ ?_; rotate_left; (focus (rintro w' ⟨o', n', rfl⟩; go_simp; try with_reducible rfl)); simp only [Act.put, List.setIfInBounds_toArray, List.set_cons_zero, List.set_cons_succ]) | (refine wpR_skip rfl rfl rfl rfl rfl rfl ?_; simp only [Act.put, List.setIfInBounds_toArray, List.set_cons_zero, List.set_cons_succ]) | (refine wpR_skipU rfl rfl rfl rfl rfl ?_; simp only [Act.put, List.setIfInBounds_toArray, List.set_cons_zero, List.set_cons_succ]) | (refine wpR_do rfl rfl (fun K hK => ?_)) | (refine wpR_doG rfl rfl rfl rfl rfl (fun K hK => ?_)) | (refine wpR_last rfl rfl (fun K hK => ?_)) | (refine wpR_nil ?_)) | ((with_reducible refine wpR_go ?_ ?_); (focus (show Grew _ _; repeat (first | (with_reducible exact Grew.refl _) | (with_reducible assumption) | (with_reducible exact Grew.same_o) | (with_reducible exact Grew.app_o) | (with_reducible refine Grew.ext ?_ _ _) | (with_reducible refine Grew.alloc ?_ _) | ((with_reducible refine Grew.setCell ?_ ?_ _); rotate_left; (focus (dsimp only; first | omega | (simp only [size_ext, World.size_alloc, Array.size_append]; omega)))) | (with_reducible refine Grew.drewN ?_ _) | (with_reducible refine Grew.drew ?_))))) | ((with_reducible refine upon_id ?_); refine upon_fop rfl (by assumption) (by assumption) ?_; intro rr nn hr) | (go_at_call 190; ((with_reducible refine (hvc _).mono ?_); rintro e w2 ⟨rfl, gw2⟩; (have gw3 : Grew w1 w2 := Grew.trans (by (show Grew _ _; (try simp only [← Array.append_assoc]); repeat (first | (with_reducible exact Grew.same_o) | (with_reducible exact Grew.refl _) | (with_reducible assumption) | (with_reducible refine Grew.alloc ?_ _) | (with_reducible refine Grew.app_r ?_) | ((with_reducible refine Grew.setCell ?_ ?_ _); rotate_left; (focus (dsimp only; first | omega | (simp only [size_ext, World.size_alloc, Array.size_append]; omega)))) | (with_reducible refine Grew.ext ?_ _ _) | (with_reducible refine Grew.drewN ?_ _) | (with_reducible refine Grew.drew ?_)))) gw2); (have hp2 := hp1.grew gw3); (have tp2 := hp2.cell); (have lp2 := hp2.lt); (have fp2 := hp2.frozen))) | (go_at_call 127; ((with_reducible refine (most_w n (.slice (some ⟨gx, 0, none⟩) n cx) XL _ (fxs _ (hXW.grew (Grew.trans gw1 (by (show Grew _ _; (try simp only [← Array.append_assoc]); repeat (first | (with_reducible exact Grew.same_o) | (with_reducible exact Grew.refl _) | (with_reducible assumption) | (with_reducible refine Grew.alloc ?_ _) | (with_reducible refine Grew.app_r ?_) | ((with_reducible refine Grew.setCell ?_ ?_ _); rotate_left; (focus (dsimp only; first | omega | (simp only [size_ext, World.size_alloc, Array.size_append]; omega)))) | (with_reducible refine Grew.ext ?_ _ _) | (with_reducible refine Grew.drewN ?_ _) | (with_reducible refine Grew.drew ?_))))))) hXL (by omega) h2).mono ?_); rintro e w3 ⟨rfl, gm⟩; (have gw5 : Grew w1 w3 := Grew.trans (by (show Grew _ _; (try simp only [← Array.append_assoc]); repeat (first | (with_reducible exact Grew.same_o) | (with_reducible exact Grew.refl _) | (with_reducible assumption) | (with_reducible refine Grew.alloc ?_ _) | (with_reducible refine Grew.app_r ?_) | ((with_reducible refine Grew.setCell ?_ ?_ _); rotate_left; (focus (dsimp only; first | omega | (simp only [size_ext, World.size_alloc, Array.size_append]; omega)))) | (with_reducible refine Grew.ext ?_ _ _) | (with_reducible refine Grew.drewN ?_ _) | (with_reducible refine Grew.drew ?_)))) (show Grew _ _ from gm)); (have hp3 := hp1.grew gw5); (have tp3 := hp3.cell); (have lp3 := hp3.lt); (have fp3 := hp3.frozen))))
  refine name_any (fun V hV => ?_)
  have PV : Box V p #[.int .i64 n, .int .i64 4, .float .f64 Eb, .slice va vn vc, .slice sa sn sc, .int .i64 (mostW XL), .int .i64 c] := by rw [← hV]; exact hp3.setC 5 _
  have BV : But w3 [p] V := by rw [← hV]; exact (But.refl _ _).setP _
  clear hV
  have gz := gw5
  have BwV : But w [p] V := (But.gr (Grew.trans g0 (Grew.trans gw1 gz))).tr BV
  have zV := BwV.size
  have XV := Box.but2 (X1.grew (Grew.trans gw1 gz)) BV (by simp; omega)
  have FV : FW V gx XL := BV.fw (hXW.grew (Grew.trans gw1 gz)) (by simp; omega)
  have tv := PV.cell
  have lv := PV.lt
  have fv := PV.frozen
  have xv := XV.cell
  have lxv := XV.lt
  obtain ⟨b1, hb1, hx1⟩ := FV.get (i := j) (by omega)
  obtain ⟨b2, hb2, hx2⟩ := FV.get (i := mostW XL) (by omega)
  have lgx := FV.lt
  refine wp_region_R (Grew V) [] [(0,0), (0,1), (0,2), (0,3), (0,5), (0,6), (0,7), (0,8), (0,9), (0,10), (0,11), (1,4), (1,12), (0,13), (0,14), (0,15), (0,16), (0,17), (0,18), (0,19), (0,20)] (by kernel_rfl) (by kernel_rfl) (fun _ _ _ _ h _ => h) (by first | exact ⟨_, _, ext_drew⟩ | exact ⟨_, _, drew_ext0⟩ | (show Grew _ _; repeat (first | (with_reducible exact Grew.refl _) | (with_reducible assumption) | (with_reducible exact Grew.same_o) | (with_reducible exact Grew.app_o) | (with_reducible refine Grew.ext ?_ _ _) | (with_reducible refine Grew.alloc ?_ _) | ((with_reducible refine Grew.setCell ?_ ?_ _); rotate_left; (focus (dsimp only; first | omega | (simp only [size_ext, World.size_alloc, Array.size_append]; omega)))) | (with_reducible refine Grew.drewN ?_ _) | (with_reducible refine Grew.drew ?_)))) ?_
  go_upto_region 30 with (first | ((with_reducible refine wpR_id ?_); first | (refine wpR_take (v := ?_) rfl rfl ?_ ?_; rotate_left; (focus (rintro w' ⟨o', n', rfl⟩; go_simp; try with_reducible rfl)); simp only [Act.put, List.setIfInBounds_toArray, List.set_cons_zero, List.set_cons_succ]) | (refine wpR_pure (v := ?_) rfl rfl ?_ ?_; rotate_left; (focus (intro w'; go_simp; try with_reducible rfl)); simp only [Act.put, List.setIfInBounds_toArray, List.set_cons_zero, List.set_cons_succ]) | (refine wpR_takeG (v := ?_) rfl rfl rfl rfl rfl ?_ ?_; rotate_left; (focus (rintro w' ⟨o', n', rfl⟩; go_simp; try with_reducible rfl)); simp only [Act.put, List.setIfInBounds_toArray, List.set_cons_zero, List.set_cons_succ]) | (refine wpR_skip rfl rfl rfl rfl rfl rfl ?_; simp only [Act.put, List.setIfInBounds_toArray, List.set_cons_zero, List.set_cons_succ]) | (refine wpR_skipU rfl rfl rfl rfl rfl ?_; simp only [Act.put, List.setIfInBounds_toArray, List.set_cons_zero, List.set_cons_succ]) | (refine wpR_do rfl rfl (fun K hK => ?_)) | (refine wpR_doG rfl rfl rfl rfl rfl (fun K hK => ?_)) | (refine wpR_last rfl rfl (fun K hK => ?_)) | (refine wpR_nil ?_)) | ((with_reducible refine wpR_go ?_ ?_); (focus (show Grew _ _; repeat (first | (with_reducible exact Grew.refl _) | (with_reducible assumption) | (with_reducible exact Grew.same_o) | (with_reducible exact Grew.app_o) | (with_reducible refine Grew.ext ?_ _ _) | (with_reducible refine Grew.alloc ?_ _) | ((with_reducible refine Grew.setCell ?_ ?_ _); rotate_left; (focus (dsimp only; first | omega | (simp only [size_ext, World.size_alloc, Array.size_append]; omega)))) | (with_reducible refine Grew.drewN ?_ _) | (with_reducible refine Grew.drew ?_))))) | ((with_reducible refine upon_id ?_); refine upon_fop rfl (by assumption) (by assumption) ?_; intro rr nn hr) | (go_at_call 164; ((with_reducible refine (mabs_any b1 _ _ hx1).mono ?_); rintro e w4 ⟨ra, rfl, hra, rfl⟩)) | (go_at_call 164; ((with_reducible refine (mabs_any b2 _ _ hx2).mono ?_); rintro e w4 ⟨rb, rfl, hrb, rfl⟩; (have e3 := hcmp _ _ hra hrb))))
  refine name_any (fun V1 hV1 => ?_)
  have gV1 : Grew V V1 := by rw [← hV1]; (show Grew _ _; (try simp only [← Array.append_assoc]); repeat (first | (with_reducible exact Grew.same_o) | (with_reducible exact Grew.refl _) | (with_reducible assumption) | (with_reducible refine Grew.alloc ?_ _) | (with_reducible refine Grew.app_r ?_) | ((with_reducible refine Grew.setCell ?_ ?_ _); rotate_left; (focus (dsimp only; first | omega | (simp only [size_ext, World.size_alloc, Array.size_append]; omega)))) | (with_reducible refine Grew.ext ?_ _ _) | (with_reducible refine Grew.drewN ?_ _) | (with_reducible refine Grew.drew ?_)))
  have PV1 := PV.grew gV1
  have XV1 := XV.grew gV1
  have xv1 := XV1.cell
  have lxv1 := XV1.lt
  clear hV1 hb1 hb2
  go_wp2_with (first | (go_at_call 213; ((with_reducible refine (final_ok n p h1 h2 Eb va sa vn vc sn sc 4 (mostW XL) c _ (PV1.grew (by (show Grew _ _; (try simp only [← Array.append_assoc]); repeat (first | (with_reducible exact Grew.same_o) | (with_reducible exact Grew.refl _) | (with_reducible assumption) | (with_reducible refine Grew.alloc ?_ _) | (with_reducible refine Grew.app_r ?_) | ((with_reducible refine Grew.setCell ?_ ?_ _); rotate_left; (focus (dsimp only; first | omega | (simp only [size_ext, World.size_alloc, Array.size_append]; omega)))) | (with_reducible refine Grew.ext ?_ _ _) | (with_reducible refine Grew.drewN ?_ _) | (with_reducible refine Grew.drew ?_)))))).mono ?_); rintro e w5 ⟨g, rfl, hz, hF, hB, hX2⟩)))
  refine bodyPost_ret (v := .tuple #[.slice (some ⟨g, 0, none⟩) n n, .int .i64 1]) (by simp [results, Try.results189, go_sem, *]) rfl ?_
  have z1 := gV1.below.size
  have BB := (BwV.grew gV1).tr hB
  exact ⟨fun _ => ⟨g, rfl, by omega, hF⟩, (fun h => by cases h), BB, ⟨Eb, va, vn, vc, sa, sn, sc, hX2, hE, keepS hS hnb BB, hnb⟩⟩
set_option maxRecDepth 100000 in
set_option maxHeartbeats 2000000 in
theorem next_again2b (n p E j c : Nat) (S : List Nat) (h1 : 2 ≤ n) (h2 : n ≤ 12) (w : World) (XL : List Nat) (gx cx : Nat) (hX : FW w gx XL) (hXL : XL.length = n) (ngx : gx ≠ p) (hj : j < n) (hc : c ≤ 5) (hc2 : 5 ≤ c) (hfe : feq (fabs (XL.getD j 0)) (fabs (XL.getD (mostW XL) 0)) = false) (hm : MS w p n ⟨4, E, S, j, c⟩) : Calls Try.prog 189 #[.pointer (some ⟨p, 0, none⟩), .slice (some ⟨gx, 0, none⟩) n cx] w (NextPost p n w ⟨5, E, S, mostW XL, c⟩ ((List.range n).map (lastW n)) 1) := by
  have d5 : decide ((c : Int) < 5) = false := by simp; omega
  obtain ⟨Eb, va, vn, vc, sa, sn, sc, hp0, hE, hS, hnb⟩ := hm
  have hp : Box w p #[.int .i64 n, .int .i64 4, .float .f64 Eb, .slice va vn vc, .slice sa sn sc, .int .i64 j, .int .i64 c] := hp0
  have hmw : mostW XL < n := by rw [← hXL]; exact mostW_lt (by omega)
  have hcmp : ∀ ra rb, IsF ra (fabs (XL.getD j 0)) → IsF rb (fabs (XL.getD (mostW XL) 0)) → (FloatKind.f64.format.order ra rb != some Ordering.eq) = !(feq (fabs (XL.getD j 0)) (fabs (XL.getD (mostW XL) 0))) := fun ra rb h1 h2 => by
    rw [show FloatKind.f64.format.order ra rb = D64.order (fabs (XL.getD j 0)) (fabs (XL.getD (mostW XL) 0)) from h1.order h2]
    unfold feq bne; rfl
  rw [hfe] at hcmp
  simp only [Bool.not_false, Bool.not_true] at hcmp
  have hw1 : IntKind.i64.wrap ((c : Int) + 1) = (c : Int) + 1 := IntWalk.i64_in _ (by omega)
  clear hfe
  have fxs : ∀ w', FW w' gx XL → FS w' (.slice (some ⟨gx, 0, none⟩) n cx) XL := fun w' h => by have := h.fs (by omega) cx; rw [hXL] at this; exact this
  have d0 : ((n : Int) == 0) = false := by simp; omega
  have d2 : ((n : Int) != (n : Int)) = false := by simp
  clear hp0
  go_enter Try.func189, Try.ntmps189
  refine seq_stop ?_
  go_wp2
  refine stop_go (fun W hW => ?_)
  have s1 : w.heap.size < W.heap.size := by rw [hW]; simp only [World.size_alloc]; omega
  have b1 : ∀ i, W.cell? ⟨w.heap.size, i, none⟩ = (#[.pointer (some ⟨p, 0, none⟩)] : Array Value)[i]? := by intro i; rw [hW]; go_simp
  have X1 : Box W (w.heap.size) #[.pointer (some ⟨p, 0, none⟩)] := by rw [hW]; exact Box.new' (by first | rfl | (simp only [World.size_alloc]; done) | (simp only [World.size_alloc]; omega))
  have f1 : ∀ i, W.frozen? ⟨w.heap.size, i, none⟩ = false := by intro i; rw [hW]; go_simp
  have g0 : Grew w W := by rw [hW]; exact (Grew.refl _).alloc _
  clear hW
  have hpW := hp.grew g0
  have tp := hpW.cell
  have lpW := hpW.lt
  have lp := hp.lt
  have nq : w.heap.size ≠ p := by omega
  have hXW := hX.grew g0
  have hnv : Calls Try.prog 205 #[.slice (some ⟨gx, 0, none⟩) n cx] W (fun e w2 => ∃ r q, e = .returned (.tuple #[.float .f64 r, .float .f64 q]) ∧ IsF r (sumW XL) ∧ Grew W w2) := nvec_any _ XL W (fxs _ hXW) (by omega)
  have hcl : ∀ w', Grew W w' → Calls Try.prog 208 #[.slice (some ⟨gx, 0, none⟩) n cx] w' (fun e w2 => ∃ a n c, e = .returned (.slice a n c) ∧ Grew w' w2) := fun w' g => sclone_any _ XL w' (fxs _ (hXW.grew g)) (by omega) (by omega)
  have hvc : ∀ w', Calls Try.prog 190 #[.slice (some ⟨gx, 0, none⟩) n cx] w' (fun e w2 => e = .returned (.agg #[.slice (some ⟨gx, 0, none⟩) n cx, .int .i64 0, .int .i64 n, .int .i64 1]) ∧ Grew w' w2) := fun w' => lvec_any _ n cx w'
  clear f1
  go_upto_region 26 with (first | (go_at_call 205; ((with_reducible refine hnv.mono ?_); rintro e w1 ⟨r, qq, rfl, hr, gw1⟩; (have hp1 := hpW.grew gw1); (have tp1 := hp1.cell); (have lp1 := hp1.lt); (have fp1 := hp1.frozen); (have xq1 := (X1.grew gw1).cell); (have xl1 := (X1.grew gw1).lt))))
  refine wp_region_R (Grew w1) [9] [(0,0), (3,1), (1,2), (1,3), (3,4), (3,5), (3,6), (3,7), (3,8), (2,9)] (by kernel_rfl) (by kernel_rfl) (fun _ _ _ _ h _ => h) (by first | exact ⟨_, _, ext_drew⟩ | exact ⟨_, _, drew_ext0⟩ | (show Grew _ _; repeat (first | (with_reducible exact Grew.refl _) | (with_reducible assumption) | (with_reducible exact Grew.same_o) | (with_reducible exact Grew.app_o) | (with_reducible refine Grew.ext ?_ _ _) | (with_reducible refine Grew.alloc ?_ _) | ((with_reducible refine Grew.setCell ?_ ?_ _); rotate_left; (focus (dsimp only; first | omega | (simp only [size_ext, World.size_alloc, Array.size_append]; omega)))) | (with_reducible refine Grew.drewN ?_ _) | (with_reducible refine Grew.drew ?_)))) ?_
  go_upto_region 27 with (first | ((with_reducible refine wpR_id ?_); first | (refine wpR_take (v := ?_) rfl rfl ?_ ?_; rotate_left; (focus (rintro w' ⟨o', n', rfl⟩; go_simp; try with_reducible rfl)); simp only [Act.put, List.setIfInBounds_toArray, List.set_cons_zero, List.set_cons_succ]) | (refine wpR_pure (v := ?_) rfl rfl ?_ ?_; rotate_left; (focus (intro w'; go_simp; try with_reducible rfl)); simp only [Act.put, List.setIfInBounds_toArray, List.set_cons_zero, List.set_cons_succ]) | (refine wpR_takeG (v := ?_) rfl rfl rfl rfl rfl ?_ ?_; rotate_left; (focus (rintro w' ⟨o', n', rfl⟩; go_simp; try with_reducible rfl)); simp only [Act.put, List.setIfInBounds_toArray, List.set_cons_zero, List.set_cons_succ]) | (refine wpR_skip rfl rfl rfl rfl rfl rfl ?_; simp only [Act.put, List.setIfInBounds_toArray, List.set_cons_zero, List.set_cons_succ]) | (refine wpR_skipU rfl rfl rfl rfl rfl ?_; simp only [Act.put, List.setIfInBounds_toArray, List.set_cons_zero, List.set_cons_succ]) | (refine wpR_do rfl rfl (fun K hK => ?_)) | (refine wpR_doG rfl rfl rfl rfl rfl (fun K hK => ?_)) | (refine wpR_last rfl rfl (fun K hK => ?_)) | (refine wpR_nil ?_)) | ((with_reducible refine wpR_go ?_ ?_); (focus (show Grew _ _; repeat (first | (with_reducible exact Grew.refl _) | (with_reducible assumption) | (with_reducible exact Grew.same_o) | (with_reducible exact Grew.app_o) | (with_reducible refine Grew.ext ?_ _ _) | (with_reducible refine Grew.alloc ?_ _) | ((with_reducible refine Grew.setCell ?_ ?_ _); rotate_left; (focus (dsimp only; first | omega | (simp only [size_ext, World.size_alloc, Array.size_append]; omega)))) | (with_reducible refine Grew.drewN ?_ _) | (with_reducible refine Grew.drew ?_))))) | ((with_reducible refine upon_id ?_); refine upon_fop rfl (by assumption) (by assumption) ?_; intro rr nn hr) | (go_at_call 190; ((with_reducible refine (hvc _).mono ?_); rintro e w2 ⟨rfl, gw2⟩; (have gw3 : Grew w1 w2 := Grew.trans (by (show Grew _ _; (try simp only [← Array.append_assoc]); repeat (first | (with_reducible exact Grew.same_o) | (with_reducible exact Grew.refl _) | (with_reducible assumption) | (with_reducible refine Grew.alloc ?_ _) | (with_reducible refine Grew.app_r ?_) | ((with_reducible refine Grew.setCell ?_ ?_ _); rotate_left; (focus (dsimp only; first | omega | (simp only [size_ext, World.size_alloc, Array.size_append]; omega)))) | (with_reducible refine Grew.ext ?_ _ _) | (with_reducible refine Grew.drewN ?_ _) | (with_reducible refine Grew.drew ?_)))) gw2); (have hp2 := hp1.grew gw3); (have tp2 := hp2.cell); (have lp2 := hp2.lt); (have fp2 := hp2.frozen))) | (go_at_call 127; ((with_reducible refine (most_w n (.slice (some ⟨gx, 0, none⟩) n cx) XL _ (fxs _ (hXW.grew (Grew.trans gw1 (by (show Grew _ _; (try simp only [← Array.append_assoc]); repeat (first | (with_reducible exact Grew.same_o) | (with_reducible exact Grew.refl _) | (with_reducible assumption) | (with_reducible refine Grew.alloc ?_ _) | (with_reducible refine Grew.app_r ?_) | ((with_reducible refine Grew.setCell ?_ ?_ _); rotate_left; (focus (dsimp only; first | omega | (simp only [size_ext, World.size_alloc, Array.size_append]; omega)))) | (with_reducible refine Grew.ext ?_ _ _) | (with_reducible refine Grew.drewN ?_ _) | (with_reducible refine Grew.drew ?_))))))) hXL (by omega) h2).mono ?_); rintro e w3 ⟨rfl, gm⟩; (have gw5 : Grew w1 w3 := Grew.trans (by (show Grew _ _; (try simp only [← Array.append_assoc]); repeat (first | (with_reducible exact Grew.same_o) | (with_reducible exact Grew.refl _) | (with_reducible assumption) | (with_reducible refine Grew.alloc ?_ _) | (with_reducible refine Grew.app_r ?_) | ((with_reducible refine Grew.setCell ?_ ?_ _); rotate_left; (focus (dsimp only; first | omega | (simp only [size_ext, World.size_alloc, Array.size_append]; omega)))) | (with_reducible refine Grew.ext ?_ _ _) | (with_reducible refine Grew.drewN ?_ _) | (with_reducible refine Grew.drew ?_)))) (show Grew _ _ from gm)); (have hp3 := hp1.grew gw5); (have tp3 := hp3.cell); (have lp3 := hp3.lt); (have fp3 := hp3.frozen))))
  refine name_any (fun V hV => ?_)
  have PV : Box V p #[.int .i64 n, .int .i64 4, .float .f64 Eb, .slice va vn vc, .slice sa sn sc, .int .i64 (mostW XL), .int .i64 c] := by rw [← hV]; exact hp3.setC 5 _
  have BV : But w3 [p] V := by rw [← hV]; exact (But.refl _ _).setP _
  clear hV
  have gz := gw5
  have BwV : But w [p] V := (But.gr (Grew.trans g0 (Grew.trans gw1 gz))).tr BV
  have zV := BwV.size
  have XV := Box.but2 (X1.grew (Grew.trans gw1 gz)) BV (by simp; omega)
  have FV : FW V gx XL := BV.fw (hXW.grew (Grew.trans gw1 gz)) (by simp; omega)
  have tv := PV.cell
  have lv := PV.lt
  have fv := PV.frozen
  have xv := XV.cell
  have lxv := XV.lt
  obtain ⟨b1, hb1, hx1⟩ := FV.get (i := j) (by omega)
  obtain ⟨b2, hb2, hx2⟩ := FV.get (i := mostW XL) (by omega)
  have lgx := FV.lt
  refine wp_region_R (Grew V) [] [(0,0), (0,1), (0,2), (0,3), (0,5), (0,6), (0,7), (0,8), (0,9), (0,10), (0,11), (1,4), (1,12), (0,13), (0,14), (0,15), (0,16), (0,17), (0,18), (0,19), (0,20)] (by kernel_rfl) (by kernel_rfl) (fun _ _ _ _ h _ => h) (by first | exact ⟨_, _, ext_drew⟩ | exact ⟨_, _, drew_ext0⟩ | (show Grew _ _; repeat (first | (with_reducible exact Grew.refl _) | (with_reducible assumption) | (with_reducible exact Grew.same_o) | (with_reducible exact Grew.app_o) | (with_reducible refine Grew.ext ?_ _ _) | (with_reducible refine Grew.alloc ?_ _) | ((with_reducible refine Grew.setCell ?_ ?_ _); rotate_left; (focus (dsimp only; first | omega | (simp only [size_ext, World.size_alloc, Array.size_append]; omega)))) | (with_reducible refine Grew.drewN ?_ _) | (with_reducible refine Grew.drew ?_)))) ?_
  go_upto_region 30 with (first | ((with_reducible refine wpR_id ?_); first | (refine wpR_take (v := ?_) rfl rfl ?_ ?_; rotate_left; (focus (rintro w' ⟨o', n', rfl⟩; go_simp; try with_reducible rfl)); simp only [Act.put, List.setIfInBounds_toArray, List.set_cons_zero, List.set_cons_succ]) | (refine wpR_pure (v := ?_) rfl rfl ?_ ?_; rotate_left; (focus (intro w'; go_simp; try with_reducible rfl)); simp only [Act.put, List.setIfInBounds_toArray, List.set_cons_zero, List.set_cons_succ]) | (refine wpR_takeG (v := ?_) rfl rfl rfl rfl rfl ?_ ?_; rotate_left; (focus (rintro w' ⟨o', n', rfl⟩; go_simp; try with_reducible rfl)); simp only [Act.put, List.setIfInBounds_toArray, List.set_cons_zero, List.set_cons_succ]) | (refine wpR_skip rfl rfl rfl rfl rfl rfl ?_; simp only [Act.put, List.setIfInBounds_toArray, List.set_cons_zero, List.set_cons_succ]) | (refine wpR_skipU rfl rfl rfl rfl rfl ?_; simp only [Act.put, List.setIfInBounds_toArray, List.set_cons_zero, List.set_cons_succ]) | (refine wpR_do rfl rfl (fun K hK => ?_)) | (refine wpR_doG rfl rfl rfl rfl rfl (fun K hK => ?_)) | (refine wpR_last rfl rfl (fun K hK => ?_)) | (refine wpR_nil ?_)) | ((with_reducible refine wpR_go ?_ ?_); (focus (show Grew _ _; repeat (first | (with_reducible exact Grew.refl _) | (with_reducible assumption) | (with_reducible exact Grew.same_o) | (with_reducible exact Grew.app_o) | (with_reducible refine Grew.ext ?_ _ _) | (with_reducible refine Grew.alloc ?_ _) | ((with_reducible refine Grew.setCell ?_ ?_ _); rotate_left; (focus (dsimp only; first | omega | (simp only [size_ext, World.size_alloc, Array.size_append]; omega)))) | (with_reducible refine Grew.drewN ?_ _) | (with_reducible refine Grew.drew ?_))))) | ((with_reducible refine upon_id ?_); refine upon_fop rfl (by assumption) (by assumption) ?_; intro rr nn hr) | (go_at_call 164; ((with_reducible refine (mabs_any b1 _ _ hx1).mono ?_); rintro e w4 ⟨ra, rfl, hra, rfl⟩)) | (go_at_call 164; ((with_reducible refine (mabs_any b2 _ _ hx2).mono ?_); rintro e w4 ⟨rb, rfl, hrb, rfl⟩; (have e3 := hcmp _ _ hra hrb))))
  refine name_any (fun V1 hV1 => ?_)
  have gV1 : Grew V V1 := by rw [← hV1]; (show Grew _ _; (try simp only [← Array.append_assoc]); repeat (first | (with_reducible exact Grew.same_o) | (with_reducible exact Grew.refl _) | (with_reducible assumption) | (with_reducible refine Grew.alloc ?_ _) | (with_reducible refine Grew.app_r ?_) | ((with_reducible refine Grew.setCell ?_ ?_ _); rotate_left; (focus (dsimp only; first | omega | (simp only [size_ext, World.size_alloc, Array.size_append]; omega)))) | (with_reducible refine Grew.ext ?_ _ _) | (with_reducible refine Grew.drewN ?_ _) | (with_reducible refine Grew.drew ?_)))
  have PV1 := PV.grew gV1
  have XV1 := XV.grew gV1
  have xv1 := XV1.cell
  have lxv1 := XV1.lt
  clear hV1 hb1 hb2
  go_wp2_with (first | (go_at_call 213; ((with_reducible refine (final_ok n p h1 h2 Eb va sa vn vc sn sc 4 (mostW XL) c _ (PV1.grew (by (show Grew _ _; (try simp only [← Array.append_assoc]); repeat (first | (with_reducible exact Grew.same_o) | (with_reducible exact Grew.refl _) | (with_reducible assumption) | (with_reducible refine Grew.alloc ?_ _) | (with_reducible refine Grew.app_r ?_) | ((with_reducible refine Grew.setCell ?_ ?_ _); rotate_left; (focus (dsimp only; first | omega | (simp only [size_ext, World.size_alloc, Array.size_append]; omega)))) | (with_reducible refine Grew.ext ?_ _ _) | (with_reducible refine Grew.drewN ?_ _) | (with_reducible refine Grew.drew ?_)))))).mono ?_); rintro e w5 ⟨g, rfl, hz, hF, hB, hX2⟩)))
  refine bodyPost_ret (v := .tuple #[.slice (some ⟨g, 0, none⟩) n n, .int .i64 1]) (by simp [results, Try.results189, go_sem, *]) rfl ?_
  have z1 := gV1.below.size
  have BB := (BwV.grew gV1).tr hB
  exact ⟨fun _ => ⟨g, rfl, by omega, hF⟩, (fun h => by cases h), BB, ⟨Eb, va, vn, vc, sa, sn, sc, hX2, hE, keepS hS hnb BB, hnb⟩⟩
/-- The worlds beside the call: the machine's count of numbers stands. -/
def ClsL (V : World) (p n : Nat) (w' : World) : Prop := But V [p] w' ∧ w'.cell? ⟨p, 0, none⟩ = some (.int .i64 n)
set_option maxRecDepth 100000 in
set_option maxHeartbeats 2000000 in
theorem next_last (n p E j c : Nat) (S : List Nat) (h1 : 2 ≤ n) (h2 : n ≤ 12) (w : World) (XL : List Nat) (gx cx : Nat) (hX : FW w gx XL) (hXL : XL.length = n) (ngx : gx ≠ p) (hm : MS w p n ⟨5, E, S, j, c⟩) :
    Calls Try.prog 189 #[.pointer (some ⟨p, 0, none⟩), .slice (some ⟨gx, 0, none⟩) n cx] w (NextPost p n w ⟨6, betterW (fmul 4611686018427387904 (fdiv (sumW XL) (fint (3 * n : Nat)))) E, S, j, c⟩ [] 0) := by
  obtain ⟨Eb, va, vn, vc, sa, sn, sc, hp0, hE, hS, hnb⟩ := hm
  have hp : Box w p #[.int .i64 n, .int .i64 5, .float .f64 Eb, .slice va vn vc, .slice sa sn sc, .int .i64 j, .int .i64 c] := hp0
  have hm3 : IntKind.i64.wrap (3 * (n : Int)) = 3 * (n : Int) := IntWalk.i64_in _ (by omega)
  have f3 : IsF (floatOfInt .f64 (3 * (n : Int))) (fint (3 * n : Nat)) := by
    have := fint_isF (z := ((3 * n : Nat) : Int)) (by omega)
    rw [show ((3 * n : Nat) : Int) = 3 * (n : Int) by omega] at this ⊢; exact this
  have f2 : IsF 4611686018427387904 4611686018427387904 := by decide +kernel
  have fxs : ∀ w', FW w' gx XL → FS w' (.slice (some ⟨gx, 0, none⟩) n cx) XL := fun w' h => by have := h.fs (by omega) cx; rw [hXL] at this; exact this
  have d0 : ((n : Int) == 0) = false := by simp; omega
  have d2 : ((n : Int) != (n : Int)) = false := by simp
  clear hp0
  go_enter Try.func189, Try.ntmps189
  refine seq_stop ?_
  go_wp2
  refine stop_go (fun W hW => ?_)
  have s1 : w.heap.size < W.heap.size := by rw [hW]; simp only [World.size_alloc]; omega
  have b1 : ∀ i, W.cell? ⟨w.heap.size, i, none⟩ = (#[.pointer (some ⟨p, 0, none⟩)] : Array Value)[i]? := by intro i; rw [hW]; go_simp
  have X1 : Box W (w.heap.size) #[.pointer (some ⟨p, 0, none⟩)] := by rw [hW]; exact Box.new' (by first | rfl | (simp only [World.size_alloc]; done) | (simp only [World.size_alloc]; omega))
  have f1 : ∀ i, W.frozen? ⟨w.heap.size, i, none⟩ = false := by intro i; rw [hW]; go_simp
  have g0 : Grew w W := by rw [hW]; exact (Grew.refl _).alloc _
  clear hW
  have hpW := hp.grew g0
  have tp := hpW.cell
  have lpW := hpW.lt
  have lp := hp.lt
  have nq : w.heap.size ≠ p := by omega
  have hXW := hX.grew g0
  have hnv : Calls Try.prog 205 #[.slice (some ⟨gx, 0, none⟩) n cx] W (fun e w2 => ∃ r q, e = .returned (.tuple #[.float .f64 r, .float .f64 q]) ∧ IsF r (sumW XL) ∧ Grew W w2) := nvec_any _ XL W (fxs _ hXW) (by omega)
  have hcl : ∀ w', Grew W w' → Calls Try.prog 208 #[.slice (some ⟨gx, 0, none⟩) n cx] w' (fun e w2 => ∃ a n c, e = .returned (.slice a n c) ∧ Grew w' w2) := fun w' g => sclone_any _ XL w' (fxs _ (hXW.grew g)) (by omega) (by omega)
  have hvc : ∀ w', Calls Try.prog 190 #[.slice (some ⟨gx, 0, none⟩) n cx] w' (fun e w2 => e = .returned (.agg #[.slice (some ⟨gx, 0, none⟩) n cx, .int .i64 0, .int .i64 n, .int .i64 1]) ∧ Grew w' w2) := fun w' => lvec_any _ n cx w'
  clear f1
  go_upto_region 32 with (first | (go_at_call 205; ((with_reducible refine hnv.mono ?_); rintro e w1 ⟨r, qq, rfl, hr, gw1⟩; (have hp1 := hpW.grew gw1); (have tp1 := hp1.cell); (have lp1 := hp1.lt); (have fp1 := hp1.frozen); (have xq1 := (X1.grew gw1).cell); (have xl1 := (X1.grew gw1).lt))))
  have hbet : ∀ w' t, IsF t (fmul 4611686018427387904 (fdiv (sumW XL) (fint (3 * n : Nat)))) → Grew w1 w' → Calls Try.prog 211 #[.pointer (some ⟨p, 0, none⟩), .float .f64 t, .slice (some ⟨gx, 0, none⟩) n cx] w' (fun e w'' => ∃ E2 ua un uc, e = .returned (.tuple #[]) ∧ IsF E2 (betterW (fmul 4611686018427387904 (fdiv (sumW XL) (fint (3 * n : Nat)))) E) ∧ But w' [p] w'' ∧ Box w'' p #[.int .i64 n, .int .i64 5, .float .f64 E2, .slice ua un uc, .slice sa sn sc, .int .i64 j, .int .i64 c]) := fun w' t ht g =>
    better_ok n p (by omega) h2 Eb E t _ va vn vc (.slice sa sn sc) 5 j c (.slice (some ⟨gx, 0, none⟩) n cx) XL w' (hp1.grew g) hE ht (fxs _ (hXW.grew (Grew.trans gw1 g))) hXL
  have cq : ∀ w', ClsL w1 p n w' → ∀ i, w'.cell? ⟨w.heap.size, i, none⟩ = (#[.pointer (some ⟨p, 0, none⟩)] : Array Value)[i]? := fun w' hb => (Box.but2 (X1.grew gw1) hb.1 (by simp; omega)).cell
  have cp : ∀ w', ClsL w1 p n w' → w'.cell? ⟨p, 0, none⟩ = some (.int .i64 n) := fun w' hb => hb.2
  have hcls : ∀ w', Grew w1 w' → ClsL w1 p n w' := fun w' g => ⟨But.gr g, (hp1.grew g).cell 0⟩
  refine wp_region_R (ClsL w1 p n) [] [(0, 0), (0, 1), (0, 2), (0, 3), (0, 4), (0, 5), (0, 6), (0, 7), (0, 10), (1, 8), (1, 9), (1, 11)] (by kernel_rfl) (by kernel_rfl) (fun _ _ _ _ h _ => h) (hcls _ (by (show Grew _ _; (try simp only [← Array.append_assoc]); repeat (first | (with_reducible exact Grew.same_o) | (with_reducible exact Grew.refl _) | (with_reducible assumption) | (with_reducible refine Grew.alloc ?_ _) | (with_reducible refine Grew.app_r ?_) | ((with_reducible refine Grew.setCell ?_ ?_ _); rotate_left; (focus (dsimp only; first | omega | (simp only [size_ext, World.size_alloc, Array.size_append]; omega)))) | (with_reducible refine Grew.ext ?_ _ _) | (with_reducible refine Grew.drewN ?_ _) | (with_reducible refine Grew.drew ?_))))) ?_
  go_upto_region 33 with (first | ((with_reducible refine wpR_id ?_); first | (refine wpR_take (v := ?_) rfl rfl ?_ ?_; rotate_left; (focus (intro w' hw'; go_simp; try with_reducible rfl)); simp only [Act.put, List.setIfInBounds_toArray, List.set_cons_zero, List.set_cons_succ]) | (refine wpR_pure (v := ?_) rfl rfl ?_ ?_; rotate_left; (focus (intro w'; go_simp; try with_reducible rfl)); simp only [Act.put, List.setIfInBounds_toArray, List.set_cons_zero, List.set_cons_succ]) | (refine wpR_takeG (v := ?_) rfl rfl rfl rfl rfl ?_ ?_; rotate_left; (focus (intro w' hw'; go_simp; try with_reducible rfl)); simp only [Act.put, List.setIfInBounds_toArray, List.set_cons_zero, List.set_cons_succ]) | (refine wpR_skip rfl rfl rfl rfl rfl rfl ?_; simp only [Act.put, List.setIfInBounds_toArray, List.set_cons_zero, List.set_cons_succ]) | (refine wpR_skipU rfl rfl rfl rfl rfl ?_; simp only [Act.put, List.setIfInBounds_toArray, List.set_cons_zero, List.set_cons_succ]) | (refine wpR_do rfl rfl (fun K hK => ?_)) | (refine wpR_doG rfl rfl rfl rfl rfl (fun K hK => ?_)) | (refine wpR_last rfl rfl (fun K hK => ?_)) | (refine wpR_nil ?_)) | ((with_reducible refine wpR_go ?_ ?_); (focus (first | (with_reducible assumption) | exact hcls _ (by (show Grew _ _; (try simp only [← Array.append_assoc]); repeat (first | (with_reducible exact Grew.same_o) | (with_reducible exact Grew.refl _) | (with_reducible assumption) | (with_reducible refine Grew.alloc ?_ _) | (with_reducible refine Grew.app_r ?_) | ((with_reducible refine Grew.setCell ?_ ?_ _); rotate_left; (focus (dsimp only; first | omega | (simp only [size_ext, World.size_alloc, Array.size_append]; omega)))) | (with_reducible refine Grew.ext ?_ _ _) | (with_reducible refine Grew.drewN ?_ _) | (with_reducible refine Grew.drew ?_))))))) | ((with_reducible refine upon_id ?_); refine upon_fop rfl (by assumption) (by assumption) ?_; intro rr nn hr) | (go_at_call 211; ((with_reducible refine (hbet _ _ hr (by (show Grew _ _; (try simp only [← Array.append_assoc]); repeat (first | (with_reducible exact Grew.same_o) | (with_reducible exact Grew.refl _) | (with_reducible assumption) | (with_reducible refine Grew.alloc ?_ _) | (with_reducible refine Grew.app_r ?_) | ((with_reducible refine Grew.setCell ?_ ?_ _); rotate_left; (focus (dsimp only; first | omega | (simp only [size_ext, World.size_alloc, Array.size_append]; omega)))) | (with_reducible refine Grew.ext ?_ _ _) | (with_reducible refine Grew.drewN ?_ _) | (with_reducible refine Grew.drew ?_))))).mono ?_); rintro e w2 ⟨E2, b1, b2, b3, rfl, hE2, BV0, PV⟩; (have BV : But w1 [p] w2 := (But.gr (by (show Grew _ _; (try simp only [← Array.append_assoc]); repeat (first | (with_reducible exact Grew.same_o) | (with_reducible exact Grew.refl _) | (with_reducible assumption) | (with_reducible refine Grew.alloc ?_ _) | (with_reducible refine Grew.app_r ?_) | ((with_reducible refine Grew.setCell ?_ ?_ _); rotate_left; (focus (dsimp only; first | omega | (simp only [size_ext, World.size_alloc, Array.size_append]; omega)))) | (with_reducible refine Grew.ext ?_ _ _) | (with_reducible refine Grew.drewN ?_ _) | (with_reducible refine Grew.drew ?_))))).tr BV0); (have BL : ClsL w1 p n w2 := ⟨BV, PV.cell 0⟩); (have XV2 := Box.but2 (X1.grew gw1) BV (by simp; omega)); (have tp2 := PV.cell); (have lp2 := PV.lt); (have fp2 := PV.frozen); (have xv2 := XV2.cell); (have lxv2 := XV2.lt))))
  have BwV : But w [p] w2 := (But.gr (Grew.trans g0 gw1)).tr BV
  go_wp2
  refine bodyPost_ret (v := .tuple #[.slice none 0 0, .int .i64 0]) (by simp [results, Try.results189, go_sem, *]) rfl ?_
  exact ⟨(fun h => absurd rfl h), fun _ => rfl, BwV.setP _, ⟨E2, b1, b2, b3, sa, sn, sc, PV.setC 1 _, hE2, keepS hS hnb (BwV.setP _), hnb⟩⟩
end Go.Proofs.Ytcmggfpcbijcjaa
end
section
/-
  Contracts for LacnBelow: Next (189) of any machine that asks; Est (191).
-/
set_option linter.unusedSimpArgs false
set_option linter.unusedVariables false
open Go Go.RowKit Sedge
namespace Go.Proofs.Ytcmggfpcbijcjaa
theorem next_ok (n p : Nat) (m : LM) (Y : List Nat) (k : Nat) (h1 : 1 ≤ n) (h2 : n ≤ 12) (w : World) (XL : List Nat) (gx cx : Nat) (hX : FW w gx XL) (hXL : XL.length = n) (ngx : gx ≠ p) (hwf : WFs n m Y k) (hk : k ≠ 0) (hm : MS w p n m) :
    Calls Try.prog 189 #[.pointer (some ⟨p, 0, none⟩), .slice (some ⟨gx, 0, none⟩) n cx] w (fun e w' => ∃ m' Y' k', LStep n XL m m' Y' k' ∧ NextPost p n w m' Y' k' e w') := by
  obtain ⟨st, E, S, j, c⟩ := m
  unfold WFs at hwf
  rcases hwf with ⟨a, b, q⟩ | ⟨a, b, q1, q2, q3⟩ | ⟨a, b, q1, q2, q3, q4, q5⟩ | ⟨a, b, q1, q2, q3, q4, q5⟩ | ⟨a, b, q1, q2⟩ | ⟨a, b⟩
  · simp only at a; subst a
    rcases (show n = 1 ∨ 2 ≤ n by omega) with hn | hn
    · exact (next_first1 n p E j c S hn h2 w XL gx cx hX hXL ngx hm).mono fun e w' h => ⟨_, _, _, .first1 E S j c hn, h⟩
    · exact (next_first2 n p E j c S hn h2 w XL gx cx hX hXL ngx hm).mono fun e w' h => ⟨_, _, _, .first2 E S j c hn, h⟩
  · simp only at a; subst a
    exact (next_turned n p E j c S h1 h2 w XL gx cx hX hXL ngx hm).mono fun e w' h => ⟨_, _, _, .turned E S j c, h⟩
  · simp only at a; subst a
    cases hq : (seqF (sgL XL) S || fle (sumW XL) E)
    · exact (next_columnS n p E j c S q1 h2 w XL gx cx hX hXL ngx q2 hq hm).mono fun e w' h => ⟨_, _, _, .columnS E S j c hq, h⟩
    · exact (next_columnL n p E j c S q1 h2 w XL gx cx hX hXL ngx q2 hq hm).mono fun e w' h => ⟨_, _, _, .columnL E S j c hq, h⟩
  · simp only at a; subst a
    cases hf : feq (fabs (XL.getD j 0)) (fabs (XL.getD (mostW XL) 0))
    · rcases (show c < 5 ∨ 5 ≤ c by omega) with hc | hc
      · exact (next_again1 n p E j c S q1 h2 w XL gx cx hX hXL ngx q3 hc hf hm).mono fun e w' h => ⟨_, _, _, .again1 E S j c hc hf, h⟩
      · exact (next_again2b n p E j c S q1 h2 w XL gx cx hX hXL ngx q3 q4 hc hf hm).mono fun e w' h => ⟨_, _, _, .again2 E S j c (.inr hc), h⟩
    · exact (next_again2a n p E j c S q1 h2 w XL gx cx hX hXL ngx q3 q4 hf hm).mono fun e w' h => ⟨_, _, _, .again2 E S j c (.inl hf), h⟩
  · simp only at a; subst a
    exact (next_last n p E j c S q1 h2 w XL gx cx hX hXL ngx hm).mono fun e w' h => ⟨_, _, _, .last E S j c, h⟩
  · exact absurd b hk
set_option maxRecDepth 100000 in
theorem lest_ok (n p : Nat) (m : LM) (w : World) (hm : MS w p n m) : Calls Try.prog 191 #[.pointer (some ⟨p, 0, none⟩)] w (fun e w' => ∃ r, e = .returned (.float .f64 r) ∧ IsF r m.E ∧ ∃ o n, w' = ext w o n) := by
  obtain ⟨E, va, vn, vc, sa, sn, sc, hp, hE, _, _⟩ := hm
  have tp := hp.cell
  have lp := hp.lt
  go_enter Try.func191, Try.ntmps191
  go_wp2
  go_ret
  exact ⟨E, rfl, hE, by (show Grew _ _; (try simp only [← Array.append_assoc]); repeat (first | (with_reducible exact Grew.same_o) | (with_reducible exact Grew.refl _) | (with_reducible assumption) | (with_reducible refine Grew.alloc ?_ _) | (with_reducible refine Grew.app_r ?_) | ((with_reducible refine Grew.setCell ?_ ?_ _); rotate_left; (focus (dsimp only; first | omega | (simp only [size_ext, World.size_alloc, Array.size_append]; omega)))) | (with_reducible refine Grew.ext ?_ _ _) | (with_reducible refine Grew.drewN ?_ _) | (with_reducible refine Grew.drew ?_)))⟩
theorem MS.grew {w w' : World} {p n : Nat} {m : LM} (h : MS w p n m) (g : Grew w w') : MS w' p n m := by
  obtain ⟨E, va, vn, vc, sa, sn, sc, hp, hE, hS, hnb⟩ := h
  exact ⟨E, va, vn, vc, sa, sn, sc, hp.grew g, hE, hS.grew g, hnb⟩
theorem MS.lt {w : World} {p n : Nat} {m : LM} (h : MS w p n m) : p < w.heap.size := by
  obtain ⟨E, va, vn, vc, sa, sn, sc, hp, _⟩ := h
  exact hp.lt
/-- The machine's rank, read off the world. -/
def rankW (w : World) (p : Nat) : Nat := match w.cell? ⟨p, 1, none⟩, w.cell? ⟨p, 6, none⟩ with
  | some (.int _ st), some (.int _ c) => rankL ⟨st.toNat, 0, [], 0, c.toNat⟩
  | _, _ => 0
theorem MS.rank {w : World} {p n : Nat} {m : LM} (h : MS w p n m) : rankW w p = rankL m := by
  obtain ⟨E, va, vn, vc, sa, sn, sc, hp, _⟩ := h
  unfold rankW
  rw [hp.cell, hp.cell]
  simp [rankL]
end Go.Proofs.Ytcmggfpcbijcjaa
end
section
/-
  Contracts: gemv.check and gemv.Mul, where all is well.
-/
set_option linter.unusedSimpArgs false
set_option linter.unusedVariables false
open Go Go.RowKit Sedge
namespace Go.Proofs.Ytcmggfpcbijcjaa
/-- What is asked of a product: all is well. -/
structure MulOk (m : MatM) (x y : VecM) (bm cm bx cx g cg : Nat) (rows cols : Int) (w : World) : Prop where
  M : FS w (.slice (some ⟨bm, 0, none⟩) m.ws.length cm) m.ws
  X : FS w (.slice (some ⟨bx, 0, none⟩) x.ws.length cx) x.ws
  Y : FS w (.slice (some ⟨g, 0, none⟩) y.ws.length cg) y.ws
  pM : Plain w bm
  pX : Plain w bx
  pY : Plain w g
  good : m.good = true
  rx : x.right = true
  ry : y.right = true
  xn : x.n = cols
  yn : y.n = rows
  m1 : meetM (rowM y) m (decide (g = bm)) = false
  m2 : meetM (rowM y) (rowM x) (decide (g = bx)) = false
  wm : m.wf
  wx : x.wf
  wy : y.wf
  lm : m.ws.length ≤ 1000000
  lx : x.ws.length ≤ 1000000
  ly : y.ws.length ≤ 1000000
set_option maxRecDepth 100000 in
set_option maxHeartbeats 2000000 in
/-- gemv.check, where all is well. -/
theorem vcheck_ok (m : MatM) (x y : VecM) (bm cm bx cx g cg : Nat) (rows cols : Int) (w : World) (H : MulOk m x y bm cm bx cx g cg rows cols w) :
   Calls Try.prog 144 #[.agg #[(.slice (some ⟨bm, 0, none⟩) m.ws.length cm), .int .i64 m.off, .int .i64 m.rows, .int .i64 m.cols, .int .i64 m.ld], .int .i64 rows, .int .i64 cols, .agg #[(.slice (some ⟨bx, 0, none⟩) x.ws.length cx), .int .i64 x.off, .int .i64 x.n, .int .i64 x.inc], .agg #[(.slice (some ⟨g, 0, none⟩) y.ws.length cg), .int .i64 y.off, .int .i64 y.n, .int .i64 y.inc]] w (fun e w' => e = .returned (.int .i64 0) ∧ ∃ o n, w' = ext w o n) := by
  have cG : ∀ w', FS w' (.slice (some ⟨bm, 0, none⟩) m.ws.length cm) m.ws → Calls Try.prog 130 #[.agg #[(.slice (some ⟨bm, 0, none⟩) m.ws.length cm), .int .i64 m.off, .int .i64 m.rows, .int .i64 m.cols, .int .i64 m.ld]] w' (fun e w2 => e = .returned (.bool true) ∧ ∃ o n, w2 = ext w' o n) := fun w' h => by
    have := good_any m _ w' h H.wm; rw [H.good] at this; exact this
  have cX : ∀ w', FS w' (.slice (some ⟨bx, 0, none⟩) x.ws.length cx) x.ws → Calls Try.prog 135 #[.agg #[(.slice (some ⟨bx, 0, none⟩) x.ws.length cx), .int .i64 x.off, .int .i64 x.n, .int .i64 x.inc]] w' (fun e w2 => e = .returned (.bool true) ∧ ∃ o n, w2 = ext w' o n) := fun w' h => by
    have := right_any x _ w' h H.wx; rw [H.rx] at this; exact this
  have cY : ∀ w', FS w' (.slice (some ⟨g, 0, none⟩) y.ws.length cg) y.ws → Calls Try.prog 135 #[.agg #[(.slice (some ⟨g, 0, none⟩) y.ws.length cg), .int .i64 y.off, .int .i64 y.n, .int .i64 y.inc]] w' (fun e w2 => e = .returned (.bool true) ∧ ∃ o n, w2 = ext w' o n) := fun w' h => by
    have := right_any y _ w' h H.wy; rw [H.ry] at this; exact this
  have cM1 : ∀ w', FS w' (.slice (some ⟨g, 0, none⟩) y.ws.length cg) y.ws → FS w' (.slice (some ⟨bm, 0, none⟩) m.ws.length cm) m.ws → Plain w' g → Plain w' bm → Calls Try.prog 136 #[.agg #[(.slice (some ⟨g, 0, none⟩) y.ws.length cg), .int .i64 y.off, .int .i64 1, .int .i64 y.n, .int .i64 y.inc], .agg #[(.slice (some ⟨bm, 0, none⟩) m.ws.length cm), .int .i64 m.off, .int .i64 m.rows, .int .i64 m.cols, .int .i64 m.ld]] w' (fun e w2 => e = .returned (.bool false) ∧ ∃ o n, w2 = ext w' o n) := fun w' h1 h2 p1 p2 => by
    have := meetM_any (rowM y) m g bm cg cm w' h1 h2 p1 p2 (rowM_wf H.wy) H.wm H.ly H.lm
    rw [H.m1] at this; exact this
  have cM2 : ∀ w', FS w' (.slice (some ⟨g, 0, none⟩) y.ws.length cg) y.ws → FS w' (.slice (some ⟨bx, 0, none⟩) x.ws.length cx) x.ws → Plain w' g → Plain w' bx → Calls Try.prog 136 #[.agg #[(.slice (some ⟨g, 0, none⟩) y.ws.length cg), .int .i64 y.off, .int .i64 1, .int .i64 y.n, .int .i64 y.inc], .agg #[(.slice (some ⟨bx, 0, none⟩) x.ws.length cx), .int .i64 x.off, .int .i64 1, .int .i64 x.n, .int .i64 x.inc]] w' (fun e w2 => e = .returned (.bool false) ∧ ∃ o n, w2 = ext w' o n) := fun w' h1 h2 p1 p2 => by
    have := meetM_any (rowM y) (rowM x) g bx cg cx w' h1 h2 p1 p2 (rowM_wf H.wy) (rowM_wf H.wx) H.ly H.lx
    rw [H.m2] at this; exact this
  have hM := H.M
  have hX := H.X
  have hY := H.Y
  have pM := H.pM
  have pX := H.pX
  have pY := H.pY
  have d1 : (x.n != cols) = false := by simpa using H.xn
  have d2 : (y.n != rows) = false := by simpa using H.yn
  clear H
  go_enter Try.func144, Try.ntmps144
  refine seq_stop ?_
  go_wp2
  refine stop_go (fun W hW => ?_)
  have s1 : w.heap.size < W.heap.size := by rw [hW]; simp only [World.size_alloc]; omega
  have b1 : ∀ i, W.cell? ⟨w.heap.size, i, none⟩ = (#[(.slice (some ⟨bm, 0, none⟩) m.ws.length cm), .int .i64 m.off, .int .i64 m.rows, .int .i64 m.cols, .int .i64 m.ld] : Array Value)[i]? := by intro i; rw [hW]; go_simp
  have s2 : w.heap.size + 1 < W.heap.size := by rw [hW]; simp only [World.size_alloc]; omega
  have b2 : ∀ i, W.cell? ⟨w.heap.size + 1, i, none⟩ = (#[(.slice (some ⟨bx, 0, none⟩) x.ws.length cx), .int .i64 x.off, .int .i64 x.n, .int .i64 x.inc] : Array Value)[i]? := by intro i; rw [hW]; go_simp
  have s3 : w.heap.size + 1 + 1 < W.heap.size := by rw [hW]; simp only [World.size_alloc]; omega
  have b3 : ∀ i, W.cell? ⟨w.heap.size + 1 + 1, i, none⟩ = (#[(.slice (some ⟨g, 0, none⟩) y.ws.length cg), .int .i64 y.off, .int .i64 y.n, .int .i64 y.inc] : Array Value)[i]? := by intro i; rw [hW]; go_simp
  have g0 : Grew w W := by rw [hW]; exact (((Grew.refl _).alloc _).alloc _).alloc _
  clear hW
  have hMW := hM.grew g0
  have hXW := hX.grew g0
  have hYW := hY.grew g0
  go_wp2_with (first | (go_at_call 130; ((with_reducible refine (cG _ ?_).mono ?_); (focus (first | (with_reducible assumption) | (with_reducible refine FS.ext ?_ _ _; with_reducible assumption) | (with_reducible refine IS.ext ?_ _ _; with_reducible assumption) | (refine hDu _ ?_; with_reducible assumption) | (refine hOu _ ?_; with_reducible assumption) | (refine hDa _ ?_; with_reducible assumption) | (refine hDb _ ?_; with_reducible assumption) | (refine hDc _ ?_; with_reducible assumption) | (refine hDd _ ?_; with_reducible assumption) | (refine FW.fs ?_ (by omega) _; with_reducible assumption) | (refine WS.fs ?_; with_reducible assumption) | (refine FW.fs ?_ (by omega) _; assumption) | omega | assumption)); rintro e w1 ⟨rfl, oa, na, rfl⟩)) | (go_at_call 135; ((with_reducible refine (cX _ ?_).mono ?_); (focus (first | (with_reducible assumption) | (with_reducible refine FS.ext ?_ _ _; with_reducible assumption) | (with_reducible refine IS.ext ?_ _ _; with_reducible assumption) | (refine hDu _ ?_; with_reducible assumption) | (refine hOu _ ?_; with_reducible assumption) | (refine hDa _ ?_; with_reducible assumption) | (refine hDb _ ?_; with_reducible assumption) | (refine hDc _ ?_; with_reducible assumption) | (refine hDd _ ?_; with_reducible assumption) | (refine FW.fs ?_ (by omega) _; with_reducible assumption) | (refine WS.fs ?_; with_reducible assumption) | (refine FW.fs ?_ (by omega) _; assumption) | omega | assumption)); rintro e w1 ⟨rfl, ob, nb, rfl⟩)) | (go_at_call 135; ((with_reducible refine (cY _ ?_).mono ?_); (focus (first | (with_reducible assumption) | (with_reducible refine FS.ext ?_ _ _; with_reducible assumption) | (with_reducible refine IS.ext ?_ _ _; with_reducible assumption) | (refine hDu _ ?_; with_reducible assumption) | (refine hOu _ ?_; with_reducible assumption) | (refine hDa _ ?_; with_reducible assumption) | (refine hDb _ ?_; with_reducible assumption) | (refine hDc _ ?_; with_reducible assumption) | (refine hDd _ ?_; with_reducible assumption) | (refine FW.fs ?_ (by omega) _; with_reducible assumption) | (refine WS.fs ?_; with_reducible assumption) | (refine FW.fs ?_ (by omega) _; assumption) | omega | assumption)); rintro e w1 ⟨rfl, oc, nc, rfl⟩)))
  refine wp_region_R (Grew W) [] [(0,0), (0,2), (1,1), (1,3), (0,4), (0,5), (0,7), (1,6), (1,8), (1,9), (0,10), (0,11)] (by kernel_rfl) (by kernel_rfl) (fun _ _ _ _ h _ => h) (by first | exact ⟨_, _, ext_drew⟩ | exact ⟨_, _, drew_ext0⟩ | (show Grew _ _; repeat (first | (with_reducible exact Grew.refl _) | (with_reducible assumption) | (with_reducible exact Grew.same_o) | (with_reducible exact Grew.app_o) | (with_reducible refine Grew.ext ?_ _ _) | (with_reducible refine Grew.alloc ?_ _) | ((with_reducible refine Grew.setCell ?_ ?_ _); rotate_left; (focus (dsimp only; first | omega | (simp only [size_ext, World.size_alloc, Array.size_append]; omega)))) | (with_reducible refine Grew.drewN ?_ _) | (with_reducible refine Grew.drew ?_)))) ?_
  go_wp2_with (first | ((with_reducible refine wpR_id ?_); first | (refine wpR_take (v := ?_) rfl rfl ?_ ?_; rotate_left; (focus (rintro w' ⟨o', n', rfl⟩; go_simp; try with_reducible rfl)); simp only [Act.put, List.setIfInBounds_toArray, List.set_cons_zero, List.set_cons_succ]) | (refine wpR_pure (v := ?_) rfl rfl ?_ ?_; rotate_left; (focus (intro w'; go_simp; try with_reducible rfl)); simp only [Act.put, List.setIfInBounds_toArray, List.set_cons_zero, List.set_cons_succ]) | (refine wpR_takeG (v := ?_) rfl rfl rfl rfl rfl ?_ ?_; rotate_left; (focus (rintro w' ⟨o', n', rfl⟩; go_simp; try with_reducible rfl)); simp only [Act.put, List.setIfInBounds_toArray, List.set_cons_zero, List.set_cons_succ]) | (refine wpR_skip rfl rfl rfl rfl rfl rfl ?_; simp only [Act.put, List.setIfInBounds_toArray, List.set_cons_zero, List.set_cons_succ]) | (refine wpR_skipU rfl rfl rfl rfl rfl ?_; simp only [Act.put, List.setIfInBounds_toArray, List.set_cons_zero, List.set_cons_succ]) | (refine wpR_do rfl rfl (fun K hK => ?_)) | (refine wpR_doG rfl rfl rfl rfl rfl (fun K hK => ?_)) | (refine wpR_last rfl rfl (fun K hK => ?_)) | (refine wpR_nil ?_)) | ((with_reducible refine wpR_go ?_ ?_); (focus exact ⟨_, _, rfl⟩)) | ((with_reducible refine upon_id ?_); refine upon_fop rfl (by assumption) (by assumption) ?_; intro rr nn hr) | (go_at_call 196; ((with_reducible refine (vrow_any y _ _ _ _).mono ?_); rintro e w1 ⟨rfl, od, nd, rfl⟩)) | (go_at_call 196; ((with_reducible refine (vrow_any x _ _ _ _).mono ?_); rintro e w1 ⟨rfl, od, nd, rfl⟩)) | (go_at_call 136; ((with_reducible refine (cM1 _ ?_ ?_ (pY.grew (by (show Grew _ _; repeat (first | (with_reducible exact Grew.refl _) | (with_reducible assumption) | (with_reducible exact Grew.same_o) | (with_reducible exact Grew.app_o) | (with_reducible refine Grew.ext ?_ _ _) | (with_reducible refine Grew.alloc ?_ _) | ((with_reducible refine Grew.setCell ?_ ?_ _); rotate_left; (focus (dsimp only; first | omega | (simp only [size_ext, World.size_alloc, Array.size_append]; omega)))) | (with_reducible refine Grew.drewN ?_ _) | (with_reducible refine Grew.drew ?_))))) (pM.grew (by (show Grew _ _; repeat (first | (with_reducible exact Grew.refl _) | (with_reducible assumption) | (with_reducible exact Grew.same_o) | (with_reducible exact Grew.app_o) | (with_reducible refine Grew.ext ?_ _ _) | (with_reducible refine Grew.alloc ?_ _) | ((with_reducible refine Grew.setCell ?_ ?_ _); rotate_left; (focus (dsimp only; first | omega | (simp only [size_ext, World.size_alloc, Array.size_append]; omega)))) | (with_reducible refine Grew.drewN ?_ _) | (with_reducible refine Grew.drew ?_)))))).mono ?_); (focus (first | (with_reducible assumption) | (with_reducible refine FS.ext ?_ _ _; with_reducible assumption) | (with_reducible refine IS.ext ?_ _ _; with_reducible assumption) | (refine hDu _ ?_; with_reducible assumption) | (refine hOu _ ?_; with_reducible assumption) | (refine hDa _ ?_; with_reducible assumption) | (refine hDb _ ?_; with_reducible assumption) | (refine hDc _ ?_; with_reducible assumption) | (refine hDd _ ?_; with_reducible assumption) | (refine FW.fs ?_ (by omega) _; with_reducible assumption) | (refine WS.fs ?_; with_reducible assumption) | (refine FW.fs ?_ (by omega) _; assumption) | omega | assumption)); (focus (first | (with_reducible assumption) | (with_reducible refine FS.ext ?_ _ _; with_reducible assumption) | (with_reducible refine IS.ext ?_ _ _; with_reducible assumption) | (refine hDu _ ?_; with_reducible assumption) | (refine hOu _ ?_; with_reducible assumption) | (refine hDa _ ?_; with_reducible assumption) | (refine hDb _ ?_; with_reducible assumption) | (refine hDc _ ?_; with_reducible assumption) | (refine hDd _ ?_; with_reducible assumption) | (refine FW.fs ?_ (by omega) _; with_reducible assumption) | (refine WS.fs ?_; with_reducible assumption) | (refine FW.fs ?_ (by omega) _; assumption) | omega | assumption)); rintro e w1 ⟨rfl, oe, ne, rfl⟩)) | (go_at_call 136; ((with_reducible refine (cM2 _ ?_ ?_ (pY.grew (by (show Grew _ _; repeat (first | (with_reducible exact Grew.refl _) | (with_reducible assumption) | (with_reducible exact Grew.same_o) | (with_reducible exact Grew.app_o) | (with_reducible refine Grew.ext ?_ _ _) | (with_reducible refine Grew.alloc ?_ _) | ((with_reducible refine Grew.setCell ?_ ?_ _); rotate_left; (focus (dsimp only; first | omega | (simp only [size_ext, World.size_alloc, Array.size_append]; omega)))) | (with_reducible refine Grew.drewN ?_ _) | (with_reducible refine Grew.drew ?_))))) (pX.grew (by (show Grew _ _; repeat (first | (with_reducible exact Grew.refl _) | (with_reducible assumption) | (with_reducible exact Grew.same_o) | (with_reducible exact Grew.app_o) | (with_reducible refine Grew.ext ?_ _ _) | (with_reducible refine Grew.alloc ?_ _) | ((with_reducible refine Grew.setCell ?_ ?_ _); rotate_left; (focus (dsimp only; first | omega | (simp only [size_ext, World.size_alloc, Array.size_append]; omega)))) | (with_reducible refine Grew.drewN ?_ _) | (with_reducible refine Grew.drew ?_)))))).mono ?_); (focus (first | (with_reducible assumption) | (with_reducible refine FS.ext ?_ _ _; with_reducible assumption) | (with_reducible refine IS.ext ?_ _ _; with_reducible assumption) | (refine hDu _ ?_; with_reducible assumption) | (refine hOu _ ?_; with_reducible assumption) | (refine hDa _ ?_; with_reducible assumption) | (refine hDb _ ?_; with_reducible assumption) | (refine hDc _ ?_; with_reducible assumption) | (refine hDd _ ?_; with_reducible assumption) | (refine FW.fs ?_ (by omega) _; with_reducible assumption) | (refine WS.fs ?_; with_reducible assumption) | (refine FW.fs ?_ (by omega) _; assumption) | omega | assumption)); (focus (first | (with_reducible assumption) | (with_reducible refine FS.ext ?_ _ _; with_reducible assumption) | (with_reducible refine IS.ext ?_ _ _; with_reducible assumption) | (refine hDu _ ?_; with_reducible assumption) | (refine hOu _ ?_; with_reducible assumption) | (refine hDa _ ?_; with_reducible assumption) | (refine hDb _ ?_; with_reducible assumption) | (refine hDc _ ?_; with_reducible assumption) | (refine hDd _ ?_; with_reducible assumption) | (refine FW.fs ?_ (by omega) _; with_reducible assumption) | (refine WS.fs ?_; with_reducible assumption) | (refine FW.fs ?_ (by omega) _; assumption) | omega | assumption)); rintro e w1 ⟨rfl, of, nf, rfl⟩)))
  go_ret
  exact ⟨rfl, by (show Grew _ _; repeat (first | (with_reducible exact Grew.refl _) | (with_reducible assumption) | (with_reducible exact Grew.same_o) | (with_reducible exact Grew.app_o) | (with_reducible refine Grew.ext ?_ _ _) | (with_reducible refine Grew.alloc ?_ _) | ((with_reducible refine Grew.setCell ?_ ?_ _); rotate_left; (focus (dsimp only; first | omega | (simp only [size_ext, World.size_alloc, Array.size_append]; omega)))) | (with_reducible refine Grew.drewN ?_ _) | (with_reducible refine Grew.drew ?_)))⟩
set_option maxRecDepth 100000 in
set_option maxHeartbeats 2000000 in
/-- gemv.Mul, where all is well. -/
theorem mul_ok (a α b β : Nat) (m : MatM) (x y : VecM) (bm cm bx cx g cg : Nat) (w : World) (ha : IsF a α) (hb : IsF b β) (H : MulOk m x y bm cm bx cx g cg m.rows m.cols w) (hF : FW w g y.ws) (hy0 : 0 < y.n) (hmg : bm = g → m.ws = y.ws) (hxg : bx = g → x.ws = y.ws) (kbm : bm < w.heap.size) (kbx : bx < w.heap.size) :
   Calls Try.prog 71 #[.float .f64 a, .agg #[(.slice (some ⟨bm, 0, none⟩) m.ws.length cm), .int .i64 m.off, .int .i64 m.rows, .int .i64 m.cols, .int .i64 m.ld], .agg #[(.slice (some ⟨bx, 0, none⟩) x.ws.length cx), .int .i64 x.off, .int .i64 x.n, .int .i64 x.inc], .float .f64 b, .agg #[(.slice (some ⟨g, 0, none⟩) y.ws.length cg), .int .i64 y.off, .int .i64 y.n, .int .i64 y.inc]] w
     (fun e w' => e = .returned (.int .i64 0) ∧ But w [g] w' ∧ ∃ L, FW w' g L ∧ VH y L (fun r => mulTo α m.num x.num (beginF β (y.num r)) r x.n.toNat)) := by
  have hck : ∀ w', Grew w w' → Calls Try.prog 144 #[.agg #[(.slice (some ⟨bm, 0, none⟩) m.ws.length cm), .int .i64 m.off, .int .i64 m.rows, .int .i64 m.cols, .int .i64 m.ld], .int .i64 m.rows, .int .i64 m.cols, .agg #[(.slice (some ⟨bx, 0, none⟩) x.ws.length cx), .int .i64 x.off, .int .i64 x.n, .int .i64 x.inc], .agg #[(.slice (some ⟨g, 0, none⟩) y.ws.length cg), .int .i64 y.off, .int .i64 y.n, .int .i64 y.inc]] w' (fun e w2 => e = .returned (.int .i64 0) ∧ ∃ o n, w2 = ext w' o n) := fun w' hg =>
    vcheck_ok m x y bm cm bx cx g cg m.rows m.cols w' ⟨H.M.grew hg, H.X.grew hg, H.Y.grew hg, H.pM.grew hg, H.pX.grew hg, H.pY.grew hg, H.good, H.rx, H.ry, H.xn, H.yn, H.m1, H.m2, H.wm, H.wx, H.wy, H.lm, H.lx, H.ly⟩
  have hltg := hF.lt
  have H' := hid H
  have hny := VecM.right_n H.ry
  have Hmg := hid hmg
  have Hxg := hid hxg
  have d0 : decide (0 < y.n) = true := by simpa using hy0
  clear H hmg hxg
  go_enter Try.func71, Try.ntmps71
  refine seq_stop ?_
  go_wp2
  refine stop_go (fun W hW => ?_)
  have s1 : w.heap.size < W.heap.size := by rw [hW]; simp only [World.size_alloc]; omega
  have b1 : ∀ i, W.cell? ⟨w.heap.size, i, none⟩ = (#[.float .f64 a] : Array Value)[i]? := by intro i; rw [hW]; go_simp
  have s2 : w.heap.size + 1 < W.heap.size := by rw [hW]; simp only [World.size_alloc]; omega
  have b2 : ∀ i, W.cell? ⟨w.heap.size + 1, i, none⟩ = (#[(.slice (some ⟨bm, 0, none⟩) m.ws.length cm), .int .i64 m.off, .int .i64 m.rows, .int .i64 m.cols, .int .i64 m.ld] : Array Value)[i]? := by intro i; rw [hW]; go_simp
  have s3 : w.heap.size + 1 + 1 < W.heap.size := by rw [hW]; simp only [World.size_alloc]; omega
  have b3 : ∀ i, W.cell? ⟨w.heap.size + 1 + 1, i, none⟩ = (#[(.slice (some ⟨bx, 0, none⟩) x.ws.length cx), .int .i64 x.off, .int .i64 x.n, .int .i64 x.inc] : Array Value)[i]? := by intro i; rw [hW]; go_simp
  have s4 : w.heap.size + 1 + 1 + 1 < W.heap.size := by rw [hW]; simp only [World.size_alloc]; omega
  have b4 : ∀ i, W.cell? ⟨w.heap.size + 1 + 1 + 1, i, none⟩ = (#[(.slice (some ⟨g, 0, none⟩) y.ws.length cg), .int .i64 y.off, .int .i64 y.n, .int .i64 y.inc] : Array Value)[i]? := by intro i; rw [hW]; go_simp
  have g0 : Grew w W := by rw [hW]; exact ((((Grew.refl _).alloc _).alloc _).alloc _).alloc _
  clear hW
  have hFW := hF.grew g0
  have zW := g0.below.size
  have hmf := hmf
  go_wp2_with (first | (go_at_call 144; ((with_reducible refine (hck _ (g0.trans (by (show Grew _ _; repeat (first | (with_reducible exact Grew.refl _) | (with_reducible assumption) | (with_reducible exact Grew.same_o) | (with_reducible exact Grew.app_o) | (with_reducible refine Grew.ext ?_ _ _) | (with_reducible refine Grew.alloc ?_ _) | ((with_reducible refine Grew.setCell ?_ ?_ _); rotate_left; (focus (dsimp only; first | omega | (simp only [size_ext, World.size_alloc, Array.size_append]; omega)))) | (with_reducible refine Grew.drewN ?_ _) | (with_reducible refine Grew.drew ?_)))))).mono ?_); rintro e w1 ⟨rfl, oa, na, rfl⟩)))
  refine name_call (fun V hV => ?_)
  have gV : Grew W V := by rw [← hV]; (show Grew _ _; repeat (first | (with_reducible exact Grew.refl _) | (with_reducible assumption) | (with_reducible exact Grew.same_o) | (with_reducible exact Grew.app_o) | (with_reducible refine Grew.ext ?_ _ _) | (with_reducible refine Grew.alloc ?_ _) | ((with_reducible refine Grew.setCell ?_ ?_ _); rotate_left; (focus (dsimp only; first | omega | (simp only [size_ext, World.size_alloc, Array.size_append]; omega)))) | (with_reducible refine Grew.drewN ?_ _) | (with_reducible refine Grew.drew ?_)))
  have gw : Grew w V := g0.trans gV
  have zV := gV.below.size
  have hFV := hF.grew gw
  have c1 : ∀ w', But V [g] w' → ∀ i, w'.cell? ⟨w.heap.size, i, none⟩ = (#[.float .f64 a] : Array Value)[i]? := fun w' h i => (h.cell (by omega) (by simp; omega)).trans ((gV.cell s1).trans (b1 i))
  have c2 : ∀ w', But V [g] w' → ∀ i, w'.cell? ⟨w.heap.size + 1, i, none⟩ = (#[(.slice (some ⟨bm, 0, none⟩) m.ws.length cm), .int .i64 m.off, .int .i64 m.rows, .int .i64 m.cols, .int .i64 m.ld] : Array Value)[i]? := fun w' h i => (h.cell (by omega) (by simp; omega)).trans ((gV.cell s2).trans (b2 i))
  have c3 : ∀ w', But V [g] w' → ∀ i, w'.cell? ⟨w.heap.size + 1 + 1, i, none⟩ = (#[(.slice (some ⟨bx, 0, none⟩) x.ws.length cx), .int .i64 x.off, .int .i64 x.n, .int .i64 x.inc] : Array Value)[i]? := fun w' h i => (h.cell (by omega) (by simp; omega)).trans ((gV.cell s3).trans (b3 i))
  have c4 : ∀ w', But V [g] w' → ∀ i, w'.cell? ⟨w.heap.size + 1 + 1 + 1, i, none⟩ = (#[(.slice (some ⟨g, 0, none⟩) y.ws.length cg), .int .i64 y.off, .int .i64 y.n, .int .i64 y.inc] : Array Value)[i]? := fun w' h i => (h.cell (by omega) (by simp; omega)).trans ((gV.cell s4).trans (b4 i))
  clear hV b1 b2 b3 b4 hck
  refine (begin_any b β y g cg y.num y.ws V hb hFV (VH.start y) H'.out.ry H'.out.ly).mono ?_
  rintro e w1 ⟨rfl, hB1, L1, hL1, hS1⟩
  have t1 := c2 _ hB1
  have t2 := c3 _ hB1
  have t3 := c4 _ hB1
  have z1 := hB1.size
  have k1 : w.heap.size + 1 < w1.heap.size := by omega
  have k2 : w.heap.size + 1 + 1 < w1.heap.size := by omega
  have k3 : w.heap.size + 1 + 1 + 1 < w1.heap.size := by omega
  have bw : ∀ w', But w1 [g] w' → But w [g] w' := fun w' h => (((But.refl w [g]).grew gw).trans hB1 (fun _ hb => .inl hb)).trans h (fun _ hb => .inl hb)
  have bV : ∀ w', But w1 [g] w' → But V [g] w' := fun w' h => hB1.trans h (fun _ hb => .inl hb)
  have hcol : Calls Try.prog 146 #[.agg #[(.slice (some ⟨bm, 0, none⟩) m.ws.length cm), .int .i64 m.off, .int .i64 m.rows, .int .i64 m.cols, .int .i64 m.ld], .agg #[(.slice (some ⟨bx, 0, none⟩) x.ws.length cx), .int .i64 x.off, .int .i64 x.n, .int .i64 x.inc], .agg #[(.slice (some ⟨g, 0, none⟩) y.ws.length cg), .int .i64 y.off, .int .i64 y.n, .int .i64 y.inc], .func (.func 147) #[] #[.pointer (some ⟨w.heap.size, 0, none⟩)]] w1
     (fun e w' => e = .returned (.tuple #[]) ∧ But w1 [g] w' ∧ ∃ L, FW w' g L ∧ VH y L (fun r => mulTo α m.num x.num (beginF β (y.num r)) r x.n.toNat)) := by
    have H := H'.out
    refine columns_any m x y bm cm bx cx g cg a α w.heap.size (fun r => beginF β (y.num r)) L1 w1 ha (fun i => c1 _ hB1 i) (by omega) (by omega) hL1 hS1 H.good H.rx H.ry H.wm H.xn H.yn hy0 H.lm H.lx H.ly ?_ ?_ ?_ (by have := gw.below.size; omega) (by have := gw.below.size; omega)
    · intro w' L s hB hL hS j hj
      have hr0 : 0 < m.rows := by have := H.yn; omega
      by_cases hbg : bm = g
      · have hl : L.length = m.ws.length := by rw [hS.len, Hmg.out hbg]
        have h1 := hL.fs (by rw [hl]; have := H.lm; omega) cm
        rw [hl, ← hbg] at h1
        have := col_any (withL m L) (.slice (some ⟨bm, 0, none⟩) m.ws.length cm) j w' h1 (by rw [withL_good hl]; exact H.good) H.wm hj
        have e : (colV (withL m L) j).off = m.off + j * m.ld := by unfold colV withL; simp [hr0]
        rw [e] at this
        exact this
      · have h1 := (bw _ hB).fs_ne H.M hbg
        have := col_any m (.slice (some ⟨bm, 0, none⟩) m.ws.length cm) j w' h1 H.good H.wm hj
        have e : (colV m j).off = m.off + j * m.ld := by unfold colV; simp [hr0]
        rw [e] at this
        exact this
    · intro i j hi hj w' L s hB hL hS
      have hpl := (MatM.places H.good).lt i j (by omega) (by omega)
      by_cases hbg : bm = g
      · have hm1 := H.m1
        rw [show decide (g = bm) = true by simpa using hbg.symm] at hm1
        obtain ⟨r, h1, h2⟩ := hL.get (i := m.place i j) (by rw [hS.len, ← Hmg.out hbg]; exact hpl)
        refine ⟨r, by rw [hbg]; exact h1, ?_⟩
        rw [hS.rest _ (fun q hq => meet_no H.ry H.good hm1 hq hi hj), ← Hmg.out hbg] at h2
        exact h2
      · have h1 := (bw _ hB).fs_ne H.M hbg
        obtain ⟨blk, o, h2, _, h3⟩ := h1.at.2 (by omega)
        cases h2
        obtain ⟨r, h4, h5⟩ := h3 _ hpl
        rw [Nat.zero_add] at h4
        exact ⟨r, h4, h5⟩
    · intro j hj w' L s hB hL hS
      have hpl := VecM.place_lt H.rx hj
      by_cases hbg : bx = g
      · have hm2 := H.m2
        rw [show decide (g = bx) = true by simpa using hbg.symm] at hm2
        obtain ⟨r, h1, h2⟩ := hL.get (i := x.place j) (by rw [hS.len, ← Hxg.out hbg]; exact hpl)
        refine ⟨r, by rw [hbg]; exact h1, ?_⟩
        have ep : (rowM x).place 0 j = x.place j := by unfold MatM.place VecM.place rowM; simp
        rw [hS.rest _ (fun q hq => by rw [← ep]; exact meet_no H.ry (rowM_good H.rx) hm2 hq (i := 0) (j := j) (by show (0 : Int) < 1; omega) hj), ← Hxg.out hbg] at h2
        exact h2
      · have h1 := (bw _ hB).fs_ne H.X hbg
        obtain ⟨blk, o, h2, _, h3⟩ := h1.at.2 (by omega)
        cases h2
        obtain ⟨r, h4, h5⟩ := h3 _ hpl
        rw [Nat.zero_add] at h4
        exact ⟨r, h4, h5⟩
  go_wp2_with (first | (go_at_call 146; ((with_reducible refine (hcol).mono ?_); rintro e w1 ⟨rfl, hB2, L2, hL2, hS2⟩)))
  go_ret
  exact ⟨rfl, bw _ hB2, L2, hL2, hS2⟩
end Go.Proofs.Ytcmggfpcbijcjaa
end
section
/-
  Plain: matrices that are laid out whole.
-/
set_option linter.unusedSimpArgs false
set_option linter.unusedVariables false
open Go Go.RowKit Sedge
namespace Go.Proofs.Ytcmggfpcbijcjaa
theorem place_inj {r i j a b : Nat} (hi : i < r) (ha : a < r) (h : i + j * r = a + b * r) : i = a ∧ j = b := by
  have h1 : (i + j * r) % r = i := by rw [Nat.add_mul_mod_self_right, Nat.mod_eq_of_lt hi]
  have h2 : (a + b * r) % r = a := by rw [Nat.add_mul_mod_self_right, Nat.mod_eq_of_lt ha]
  have e : i = a := by rw [← h1, h, h2]
  subst e
  have h3 : j * r = b * r := by omega
  exact ⟨rfl, Nat.eq_of_mul_eq_mul_right (by omega) h3⟩
theorem getD_set_self {l : List Nat} {k v : Nat} (h : k < l.length) : (l.set k v).getD k 0 = v := by
  rw [List.getD_eq_getElem?_getD, List.getElem?_set_self h]; rfl
theorem getD_set_ne {l : List Nat} {k m v : Nat} (h : k ≠ m) : (l.set k v).getD m 0 = l.getD m 0 := by
  rw [List.getD_eq_getElem?_getD, List.getElem?_set_ne h, ← List.getD_eq_getElem?_getD]
theorem place_lt2 {r c i j : Nat} (hi : i < r) (hj : j < c) : i + j * r < r * c := by
  have := Nat.mul_le_mul_right r (show j + 1 ≤ c by omega)
  rw [Nat.add_mul, Nat.mul_comm c r] at this; omega
theorem matd_good {L : List Nat} {r c : Nat} (h : L.length = r * c) (hr : 1 ≤ r) (hc : 1 ≤ c) : MatM.good ⟨L, 0, r, c, r⟩ = true := by
  simp only [MatM.good, fitsB, h, Bool.and_eq_true, Bool.or_eq_true, decide_eq_true_eq]
  have : ((c : Int) - 1) * r + ((r : Int) - 1) < (r * c : Nat) := by rw [Int.sub_mul, Int.one_mul, Int.natCast_mul, Int.mul_comm]; omega
  refine ⟨by omega, .inr ⟨by omega, by omega⟩⟩
theorem matd_place {L : List Nat} {r c i j : Nat} : MatM.place ⟨L, 0, r, c, r⟩ i j = i + j * r := by
  unfold MatM.place
  simp only
  rw [Int.zero_add, ← Int.natCast_mul, ← Int.natCast_add, Int.toNat_natCast]
end Go.Proofs.Ytcmggfpcbijcjaa
end
section
/-
  Plain: products of small whole numbers (GemvTurns, GemmWhole).
-/
set_option linter.unusedSimpArgs false
set_option linter.unusedVariables false
open Go Go.RowKit Sedge
namespace Go.Proofs.Ytcmggfpcbijcjaa
def sumI (f : Nat → Int) : Nat → Int
  | 0 => 0
  | n + 1 => sumI f n + f n
theorem beginF_zero (z : Nat) : beginF 0 z = 0 := by unfold beginF; rw [if_pos (by decide +kernel)]
/-- The numbers of a list, laid into a matrix, and into the one turned about. -/
def FA (r c : Nat) (ls : List Int) (i j : Nat) (LA LB : List Nat) : Prop :=
  LA.length = r * c ∧ LB.length = c * r ∧ ∀ a b, a < r → b < c → (a < i ∨ a = i ∧ b < j) → LA.getD (a + b * r) 0 = fint (ls.getD (a * c + b) 0) ∧ LB.getD (b + a * c) 0 = fint (ls.getD (a * c + b) 0)
theorem FA.zero {r c : Nat} {ls : List Int} : FA r c ls 0 0 (List.replicate (r * c) 0) (List.replicate (c * r) 0) :=
  ⟨by simp, by simp, fun a b _ _ h => by omega⟩
theorem FA.set {r c i j : Nat} {ls : List Int} {LA LB : List Nat} (h : FA r c ls i j LA LB) (hi : i < r) (hj : j < c) :
    FA r c ls i (j + 1) (LA.set (i + j * r) (fint (ls.getD (i * c + j) 0))) (LB.set (j + i * c) (fint (ls.getD (i * c + j) 0))) := by
  obtain ⟨h1, h2, h3⟩ := h
  refine ⟨by rw [List.length_set]; exact h1, by rw [List.length_set]; exact h2, fun a b ha hb hab => ?_⟩
  by_cases e : a = i ∧ b = j
  · obtain ⟨rfl, rfl⟩ := e
    exact ⟨getD_set_self (by rw [h1]; exact place_lt2 hi hj), getD_set_self (by rw [h2]; exact place_lt2 hj hi)⟩
  · have q := h3 a b ha hb (by omega)
    rw [getD_set_ne (fun k => e ?_), getD_set_ne (fun k => e ?_)]
    · exact q
    · have := place_inj hj hb k; omega
    · have := place_inj hi ha k; omega
theorem FA.next {r c i : Nat} {ls : List Int} {LA LB : List Nat} (h : FA r c ls i c LA LB) : FA r c ls (i + 1) 0 LA LB :=
  ⟨h.1, h.2.1, fun a b ha hb hab => h.2.2 a b ha hb (by omega)⟩
/-- Whole numbers as floats. -/
def upF (xs : List Int) (i : Nat) : List Nat := (List.range i).map (fun k => fint (xs.getD k 0))
end Go.Proofs.Ytcmggfpcbijcjaa
end
section
/-
  Plain: columns of a matrix as vectors; gemm.check.
-/
set_option linter.unusedSimpArgs false
set_option linter.unusedVariables false
open Go Go.RowKit Sedge
namespace Go.Proofs.Ytcmggfpcbijcjaa
theorem colV_wf {m : MatM} (hm : m.good = true) (hl : m.ws.length ≤ 1000000) (hw : m.wf) {j : Nat} (hj : (j : Int) < m.cols) : (colV m j).wf := by
  obtain ⟨i1, i2, i3, i4⟩ := hw
  by_cases h0 : 0 < m.rows
  · have hp := MatM.good_place hm (i := 0) (j := j) (by simpa using h0) hj
    simp only [Int.natCast_zero, Int.add_zero] at hp
    unfold VecM.wf colV
    simp only [h0, if_true]
    exact ⟨by unfold I64; omega, i2, by unfold I64; omega⟩
  · unfold VecM.wf colV
    simp only [h0, if_false]
    exact ⟨i1, i2, by unfold I64; omega⟩
def gemmE (x y z : MatM) (ox oy : Bool) : Int :=
  if x.good = false ∨ y.good = false ∨ z.good = false then 1 else if x.cols ≠ y.rows ∨ z.rows ≠ x.rows ∨ z.cols ≠ y.cols then 3 else if meetM z x ox = true ∨ meetM z y oy = true then 2 else 0
structure GemmC (x y z : MatM) (bx cx bz cz g cg : Nat) (gx gy gz mx my : Bool) : Prop where
  X : ∀ w', FS w' (.slice (some ⟨bx, 0, none⟩) x.ws.length cx) x.ws → Calls Try.prog 130 #[.agg #[.slice (some ⟨bx, 0, none⟩) x.ws.length cx, .int .i64 x.off, .int .i64 x.rows, .int .i64 x.cols, .int .i64 x.ld]] w' (fun e w2 => e = .returned (.bool gx) ∧ ∃ o n, w2 = ext w' o n)
  Y : ∀ w', FS w' (.slice (some ⟨bz, 0, none⟩) y.ws.length cz) y.ws → Calls Try.prog 130 #[.agg #[.slice (some ⟨bz, 0, none⟩) y.ws.length cz, .int .i64 y.off, .int .i64 y.rows, .int .i64 y.cols, .int .i64 y.ld]] w' (fun e w2 => e = .returned (.bool gy) ∧ ∃ o n, w2 = ext w' o n)
  Z : ∀ w', FS w' (.slice (some ⟨g, 0, none⟩) z.ws.length cg) z.ws → Calls Try.prog 130 #[.agg #[.slice (some ⟨g, 0, none⟩) z.ws.length cg, .int .i64 z.off, .int .i64 z.rows, .int .i64 z.cols, .int .i64 z.ld]] w' (fun e w2 => e = .returned (.bool gz) ∧ ∃ o n, w2 = ext w' o n)
  Mx : ∀ w', FS w' (.slice (some ⟨g, 0, none⟩) z.ws.length cg) z.ws → FS w' (.slice (some ⟨bx, 0, none⟩) x.ws.length cx) x.ws → Plain w' g → Plain w' bx → Calls Try.prog 136 #[.agg #[.slice (some ⟨g, 0, none⟩) z.ws.length cg, .int .i64 z.off, .int .i64 z.rows, .int .i64 z.cols, .int .i64 z.ld], .agg #[.slice (some ⟨bx, 0, none⟩) x.ws.length cx, .int .i64 x.off, .int .i64 x.rows, .int .i64 x.cols, .int .i64 x.ld]] w' (fun e w2 => e = .returned (.bool mx) ∧ ∃ o n, w2 = ext w' o n)
  My : ∀ w', FS w' (.slice (some ⟨g, 0, none⟩) z.ws.length cg) z.ws → FS w' (.slice (some ⟨bz, 0, none⟩) y.ws.length cz) y.ws → Plain w' g → Plain w' bz → Calls Try.prog 136 #[.agg #[.slice (some ⟨g, 0, none⟩) z.ws.length cg, .int .i64 z.off, .int .i64 z.rows, .int .i64 z.cols, .int .i64 z.ld], .agg #[.slice (some ⟨bz, 0, none⟩) y.ws.length cz, .int .i64 y.off, .int .i64 y.rows, .int .i64 y.cols, .int .i64 y.ld]] w' (fun e w2 => e = .returned (.bool my) ∧ ∃ o n, w2 = ext w' o n)
end Go.Proofs.Ytcmggfpcbijcjaa
end
section
/-
  Contract: view.Dense of no numbers.
-/
set_option linter.unusedSimpArgs false
set_option linter.unusedVariables false
open Go Go.RowKit Sedge
namespace Go.Proofs.Ytcmggfpcbijcjaa
end Go.Proofs.Ytcmggfpcbijcjaa
end
section
/-
  Contracts: view.Dense of no numbers, view.Set, gemv.MulT (where all is well).
-/
set_option linter.unusedSimpArgs false
set_option linter.unusedVariables false
open Go Go.RowKit Sedge
namespace Go.Proofs.Ytcmggfpcbijcjaa
set_option maxRecDepth 100000 in
set_option maxHeartbeats 2000000 in
/-- gemv.MulT, where all is well, in lists of their own. -/
theorem mulT_ok (a α b β : Nat) (m : MatM) (x y : VecM) (bm cm bx cx g cg : Nat) (w : World) (ha : IsF a α) (hb : IsF b β) (H : MulOk m x y bm cm bx cx g cg m.cols m.rows w) (hF : FW w g y.ws) (n1 : bm ≠ g) (n2 : bx ≠ g) (hr0 : 0 < m.rows) :
   Calls Try.prog 84 #[.float .f64 a, .agg #[(.slice (some ⟨bm, 0, none⟩) m.ws.length cm), .int .i64 m.off, .int .i64 m.rows, .int .i64 m.cols, .int .i64 m.ld], .agg #[(.slice (some ⟨bx, 0, none⟩) x.ws.length cx), .int .i64 x.off, .int .i64 x.n, .int .i64 x.inc], .float .f64 b, .agg #[(.slice (some ⟨g, 0, none⟩) y.ws.length cg), .int .i64 y.off, .int .i64 y.n, .int .i64 y.inc]] w
     (fun e w' => e = .returned (.int .i64 0) ∧ But w [g] w' ∧ ∃ L, FW w' g L ∧ VH y L (fun j => fadd (beginF β (y.num j)) (fmul α (dotTo (colV m j) x m.rows.toNat)))) := by
  have hck : ∀ w', Grew w w' → Calls Try.prog 144 #[.agg #[(.slice (some ⟨bm, 0, none⟩) m.ws.length cm), .int .i64 m.off, .int .i64 m.rows, .int .i64 m.cols, .int .i64 m.ld], .int .i64 m.cols, .int .i64 m.rows, .agg #[(.slice (some ⟨bx, 0, none⟩) x.ws.length cx), .int .i64 x.off, .int .i64 x.n, .int .i64 x.inc], .agg #[(.slice (some ⟨g, 0, none⟩) y.ws.length cg), .int .i64 y.off, .int .i64 y.n, .int .i64 y.inc]] w' (fun e w2 => e = .returned (.int .i64 0) ∧ ∃ o n, w2 = ext w' o n) := fun w' hg =>
    vcheck_ok m x y bm cm bx cx g cg m.cols m.rows w' ⟨H.M.grew hg, H.X.grew hg, H.Y.grew hg, H.pM.grew hg, H.pX.grew hg, H.pY.grew hg, H.good, H.rx, H.ry, H.xn, H.yn, H.m1, H.m2, H.wm, H.wx, H.wy, H.lm, H.lx, H.ly⟩
  have hltg := hF.lt
  have hny := VecM.right_n H.ry
  have hnly := VecM.right_nle H.ry H.ly
  have Hry := hid H.ry
  have Hyn := hid H.yn
  have hbeg : ∀ w', Grew w w' → Calls Try.prog 145 #[.float .f64 b, .agg #[(.slice (some ⟨g, 0, none⟩) y.ws.length cg), .int .i64 y.off, .int .i64 y.n, .int .i64 y.inc]] w' (fun e w2 => e = .returned (.tuple #[]) ∧ But w' [g] w2 ∧ ∃ L, FW w2 g L ∧ VH y L (fun r => beginF β (y.num r))) := fun w' hg => begin_any b β y g cg y.num y.ws w' hb (hF.grew hg) (VH.start y) H.ry H.ly
  have hcol : ∀ w' (j : Nat), (j : Int) < y.n → But w [g] w' → Calls Try.prog 149 #[.agg #[(.slice (some ⟨bm, 0, none⟩) m.ws.length cm), .int .i64 m.off, .int .i64 m.rows, .int .i64 m.cols, .int .i64 m.ld], .int .i64 j] w' (fun e w2 => e = .returned (.agg #[(.slice (some ⟨bm, 0, none⟩) m.ws.length cm), .int .i64 (m.off + j * m.ld), .int .i64 m.rows, .int .i64 1]) ∧ ∃ o n, w2 = ext w' o n) := fun w' j hj hB => by
    have := col_any m (.slice (some ⟨bm, 0, none⟩) m.ws.length cm) j w' (hB.fs_ne H.M n1) H.good H.wm (by have := H.yn; omega)
    have e : (colV m j).off = m.off + j * m.ld := by unfold colV; simp [hr0]
    rw [e] at this
    exact this
  have hdot : ∀ w' (j : Nat), (j : Int) < y.n → But w [g] w' → Calls Try.prog 128 #[.agg #[(.slice (some ⟨bm, 0, none⟩) m.ws.length cm), .int .i64 (m.off + j * m.ld), .int .i64 m.rows, .int .i64 1], .agg #[(.slice (some ⟨bx, 0, none⟩) x.ws.length cx), .int .i64 x.off, .int .i64 x.n, .int .i64 x.inc]] w' (fun e w2 => ∃ b, e = .returned (.tuple #[.float .f64 b, .int .i64 0]) ∧ IsF b (dotTo (colV m j) x m.rows.toNat) ∧ ∃ o n, w2 = ext w' o n) := fun w' j hj hB => by
    have e : (colV m j).off = m.off + j * m.ld := by unfold colV; simp [hr0]
    have := dot_ok (colV m j) x (.slice (some ⟨bm, 0, none⟩) m.ws.length cm) (.slice (some ⟨bx, 0, none⟩) x.ws.length cx) w' (hB.fs_ne H.M n1) (hB.fs_ne H.X n2) (colV_wf H.good H.lm H.wm (by have := H.yn; omega)) H.wx (colV_right H.good (by have := H.yn; omega) hr0) H.rx (by have := H.xn; show m.rows = _; omega)
    rw [e] at this
    exact this
  have hat : ∀ i : Nat, (i : Int) < y.n → ∀ w', Calls Try.prog 160 #[.agg #[(.slice (some ⟨g, 0, none⟩) y.ws.length cg), .int .i64 y.off, .int .i64 y.n, .int .i64 y.inc], .int .i64 i] w' (fun e w2 => e = .returned (.pointer (some ⟨g, y.place i, none⟩)) ∧ ∃ o n, w2 = ext w' o n) := fun i hi w' => gat_any y g cg i w' H.ry hi H.ly
  clear H
  go_enter Try.func84, Try.ntmps84
  refine seq_stop ?_
  go_wp2
  refine stop_go (fun W hW => ?_)
  have s1 : w.heap.size < W.heap.size := by rw [hW]; simp only [World.size_alloc]; omega
  have b1 : ∀ i, W.cell? ⟨w.heap.size, i, none⟩ = (#[(.slice (some ⟨bm, 0, none⟩) m.ws.length cm), .int .i64 m.off, .int .i64 m.rows, .int .i64 m.cols, .int .i64 m.ld] : Array Value)[i]? := by intro i; rw [hW]; go_simp
  have s2 : w.heap.size + 1 < W.heap.size := by rw [hW]; simp only [World.size_alloc]; omega
  have b2 : ∀ i, W.cell? ⟨w.heap.size + 1, i, none⟩ = (#[(.slice (some ⟨bx, 0, none⟩) x.ws.length cx), .int .i64 x.off, .int .i64 x.n, .int .i64 x.inc] : Array Value)[i]? := by intro i; rw [hW]; go_simp
  have s3 : w.heap.size + 1 + 1 < W.heap.size := by rw [hW]; simp only [World.size_alloc]; omega
  have b3 : ∀ i, W.cell? ⟨w.heap.size + 1 + 1, i, none⟩ = (#[(.slice (some ⟨g, 0, none⟩) y.ws.length cg), .int .i64 y.off, .int .i64 y.n, .int .i64 y.inc] : Array Value)[i]? := by intro i; rw [hW]; go_simp
  have g0 : Grew w W := by rw [hW]; exact (((Grew.refl _).alloc _).alloc _).alloc _
  clear hW
  have hFW := hF.grew g0
  have zW := g0.below.size
  have bw : ∀ w', But W [g] w' → But w [g] w' := fun w' h => ((But.refl w [g]).grew g0).trans h (fun _ hb => .inl hb)
  have c1 : ∀ w', But W [g] w' → ∀ i, w'.cell? ⟨w.heap.size, i, none⟩ = (#[(.slice (some ⟨bm, 0, none⟩) m.ws.length cm), .int .i64 m.off, .int .i64 m.rows, .int .i64 m.cols, .int .i64 m.ld] : Array Value)[i]? := fun w' h i => (h.cell s1 (by simp; omega)).trans (b1 i)
  have c2 : ∀ w', But W [g] w' → ∀ i, w'.cell? ⟨w.heap.size + 1, i, none⟩ = (#[(.slice (some ⟨bx, 0, none⟩) x.ws.length cx), .int .i64 x.off, .int .i64 x.n, .int .i64 x.inc] : Array Value)[i]? := fun w' h i => (h.cell s2 (by simp; omega)).trans (b2 i)
  have c3 : ∀ w', But W [g] w' → ∀ i, w'.cell? ⟨w.heap.size + 1 + 1, i, none⟩ = (#[(.slice (some ⟨g, 0, none⟩) y.ws.length cg), .int .i64 y.off, .int .i64 y.n, .int .i64 y.inc] : Array Value)[i]? := fun w' h i => (h.cell s3 (by simp; omega)).trans (b3 i)
  go_upto_region 4 with (first | (go_at_call 144; ((with_reducible refine (hck _ (g0.trans (by (show Grew _ _; repeat (first | (with_reducible exact Grew.refl _) | (with_reducible assumption) | (with_reducible exact Grew.same_o) | (with_reducible exact Grew.app_o) | (with_reducible refine Grew.ext ?_ _ _) | (with_reducible refine Grew.alloc ?_ _) | ((with_reducible refine Grew.setCell ?_ ?_ _); rotate_left; (focus (dsimp only; first | omega | (simp only [size_ext, World.size_alloc, Array.size_append]; omega)))) | (with_reducible refine Grew.drewN ?_ _) | (with_reducible refine Grew.drew ?_)))))).mono ?_); rintro e w1 ⟨rfl, oa, na, rfl⟩)))
  refine name_any (fun V hV => ?_)
  have gV : Grew W V := by rw [← hV]; (show Grew _ _; repeat (first | (with_reducible exact Grew.refl _) | (with_reducible assumption) | (with_reducible exact Grew.same_o) | (with_reducible exact Grew.app_o) | (with_reducible refine Grew.ext ?_ _ _) | (with_reducible refine Grew.alloc ?_ _) | ((with_reducible refine Grew.setCell ?_ ?_ _); rotate_left; (focus (dsimp only; first | omega | (simp only [size_ext, World.size_alloc, Array.size_append]; omega)))) | (with_reducible refine Grew.drewN ?_ _) | (with_reducible refine Grew.drew ?_)))
  have BV : But W [g] V := (But.refl _ _).grew gV
  have t3 := c3 _ BV
  have zV := gV.below.size
  clear hV b1 b2 b3 hck
  go_upto_region 5 with (first | (go_at_call 145; ((with_reducible refine (hbeg _ (g0.trans (gV.trans (by (show Grew _ _; repeat (first | (with_reducible exact Grew.refl _) | (with_reducible assumption) | (with_reducible exact Grew.same_o) | (with_reducible exact Grew.app_o) | (with_reducible refine Grew.ext ?_ _ _) | (with_reducible refine Grew.alloc ?_ _) | ((with_reducible refine Grew.setCell ?_ ?_ _); rotate_left; (focus (dsimp only; first | omega | (simp only [size_ext, World.size_alloc, Array.size_append]; omega)))) | (with_reducible refine Grew.drewN ?_ _) | (with_reducible refine Grew.drew ?_))))))).mono ?_); rintro e w1 ⟨rfl, hB1, L1, hL1, hS1⟩)))
  have BW1 : But W [g] w1 := BV.trans hB1 (fun _ hb => .inl hb)
  have t3 := c3 _ BW1
  have zB1 := BW1.size
  have k3 : w.heap.size + 1 + 1 < w1.heap.size := by omega
  go_wp2
  clear t3
  go_loopw [31] (fun c wr => ∃ (i : Nat) (L : List Nat), (i : Int) ≤ y.n ∧ c = .int .i64 i ∧ But W [g] wr ∧ FW wr g L ∧ VH y L (fun r => if r < i then fadd (beginF β (y.num r)) (fmul α (dotTo (colV m r) x m.rows.toNat)) else beginF β (y.num r))) (fun c _ => (y.n - intOf c).toNat)
  case atStart => exact ⟨0, L1, hny.1, rfl, BW1, hL1, hS1.congr fun r _ => by simp⟩
  case round =>
    obtain ⟨i, L, hi, rfl, hB, hL, hS⟩ := hrel
    have zB := hB.size
    by_cases hlt : (i : Int) < y.n
    · have hlt' := hid hlt
      have t1 := c1 _ hB
      have t2 := c2 _ hB
      have k1 : w.heap.size < wr.heap.size := by omega
      have k2 : w.heap.size + 1 < wr.heap.size := by omega
      have hc2 := fun w' g => hcol w' i hlt (bw _ (hB.grew g))
      have hd2 := fun w' g => hdot w' i hlt (bw _ (hB.grew g))
      have hat2 := hat i hlt
      obtain ⟨r0, hr0, hf0⟩ := hL.get (i := y.place i) (by rw [hS.len]; exact VecM.place_lt Hry.out hlt)
      have hgi := hS.get i hlt
      rw [if_neg (by omega)] at hgi
      rw [hgi] at hf0
      have t3 := c3 _ hB
      have k3 : w.heap.size + 1 + 1 < wr.heap.size := by omega
      have gl := hL.lt
      have fz : ∀ i, wr.frozen? ⟨g, i, none⟩ = false := hL.notFrozen
      go_upto_region 8 with fail
      refine wp_region_R (Grew wr) [] [(0,0), (0,1), (0,3), (1,2), (1,4), (0,5), (0,6), (0,7), (0,8), (0,9)] (by kernel_rfl) (by kernel_rfl) (fun _ _ _ _ h _ => h) (by first | exact ⟨_, _, ext_drew⟩ | exact ⟨_, _, drew_ext0⟩ | (show Grew _ _; repeat (first | (with_reducible exact Grew.refl _) | (with_reducible assumption) | (with_reducible exact Grew.same_o) | (with_reducible exact Grew.app_o) | (with_reducible refine Grew.ext ?_ _ _) | (with_reducible refine Grew.alloc ?_ _) | ((with_reducible refine Grew.setCell ?_ ?_ _); rotate_left; (focus (dsimp only; first | omega | (simp only [size_ext, World.size_alloc, Array.size_append]; omega)))) | (with_reducible refine Grew.drewN ?_ _) | (with_reducible refine Grew.drew ?_)))) ?_
      go_wp2_with (first | ((with_reducible refine wpR_id ?_); first | (refine wpR_take (v := ?_) rfl rfl ?_ ?_; rotate_left; (focus (rintro w' ⟨o', n', rfl⟩; go_simp; try with_reducible rfl)); simp only [Act.put, List.setIfInBounds_toArray, List.set_cons_zero, List.set_cons_succ]) | (refine wpR_pure (v := ?_) rfl rfl ?_ ?_; rotate_left; (focus (intro w'; go_simp; try with_reducible rfl)); simp only [Act.put, List.setIfInBounds_toArray, List.set_cons_zero, List.set_cons_succ]) | (refine wpR_takeG (v := ?_) rfl rfl rfl rfl rfl ?_ ?_; rotate_left; (focus (rintro w' ⟨o', n', rfl⟩; go_simp; try with_reducible rfl)); simp only [Act.put, List.setIfInBounds_toArray, List.set_cons_zero, List.set_cons_succ]) | (refine wpR_skip rfl rfl rfl rfl rfl rfl ?_; simp only [Act.put, List.setIfInBounds_toArray, List.set_cons_zero, List.set_cons_succ]) | (refine wpR_skipU rfl rfl rfl rfl rfl ?_; simp only [Act.put, List.setIfInBounds_toArray, List.set_cons_zero, List.set_cons_succ]) | (refine wpR_do rfl rfl (fun K hK => ?_)) | (refine wpR_doG rfl rfl rfl rfl rfl (fun K hK => ?_)) | (refine wpR_last rfl rfl (fun K hK => ?_)) | (refine wpR_nil ?_)) | ((with_reducible refine wpR_go ?_ ?_); (focus (show Grew _ _; repeat (first | (with_reducible exact Grew.refl _) | (with_reducible assumption) | (with_reducible exact Grew.same_o) | (with_reducible exact Grew.app_o) | (with_reducible refine Grew.ext ?_ _ _) | (with_reducible refine Grew.alloc ?_ _) | ((with_reducible refine Grew.setCell ?_ ?_ _); rotate_left; (focus (dsimp only; first | omega | (simp only [size_ext, World.size_alloc, Array.size_append]; omega)))) | (with_reducible refine Grew.drewN ?_ _) | (with_reducible refine Grew.drew ?_))))) | ((with_reducible refine upon_id ?_); refine upon_fop rfl (by assumption) (by assumption) ?_; intro rr nn hr) | (go_at_call 149; ((with_reducible refine (hc2 _ (by (show Grew _ _; (try simp only [← Array.append_assoc]); repeat (first | (with_reducible exact Grew.same_o) | (with_reducible exact Grew.refl _) | (with_reducible assumption) | (with_reducible refine Grew.alloc ?_ _) | (with_reducible refine Grew.app_r ?_) | ((with_reducible refine Grew.setCell ?_ ?_ _); rotate_left; (focus (dsimp only; first | omega | (simp only [size_ext, World.size_alloc, Array.size_append]; omega)))) | (with_reducible refine Grew.ext ?_ _ _) | (with_reducible refine Grew.drewN ?_ _) | (with_reducible refine Grew.drew ?_))))).mono ?_); rintro e w1 ⟨rfl, oc, nc, rfl⟩)) | (go_at_call 128; ((with_reducible refine (hd2 _ (by (show Grew _ _; (try simp only [← Array.append_assoc]); repeat (first | (with_reducible exact Grew.same_o) | (with_reducible exact Grew.refl _) | (with_reducible assumption) | (with_reducible refine Grew.alloc ?_ _) | (with_reducible refine Grew.app_r ?_) | ((with_reducible refine Grew.setCell ?_ ?_ _); rotate_left; (focus (dsimp only; first | omega | (simp only [size_ext, World.size_alloc, Array.size_append]; omega)))) | (with_reducible refine Grew.ext ?_ _ _) | (with_reducible refine Grew.drewN ?_ _) | (with_reducible refine Grew.drew ?_))))).mono ?_); rintro e w1 ⟨bd, rfl, hbd, od, nd, rfl⟩)) | (go_at_call 160; ((with_reducible refine (hat2 _).mono ?_); rintro e w1 ⟨rfl, o1, n1, rfl⟩)) | ((with_reducible refine upon_id ?_); refine upon_fop rfl (by assumption) (by assumption) ?_; intro rr nn hr))
      go_roundw
      case rel => exact ⟨i + 1, _, by have := hlt'.out; omega, by go_num, (hB.setc hL (by simp)).grew ⟨_, _, rfl⟩, (hL.setc (k := y.place i) (by assumption)).ext _ _, (hS.set Hry.out hlt'.out).congr fun r hr => by
        by_cases e : r = i
        · subst e; rw [if_pos rfl, if_pos (by omega)]; rfl
        · rw [if_neg e]
          by_cases h2 : r < i
          · rw [if_pos h2, if_pos (by omega)]
          · rw [if_neg h2, if_neg (by omega)]⟩
      case measure => (have := hlt'.out; simp [intOf]; omega)
    · go_wp2
      go_ret
      exact ⟨rfl, bw _ hB, L, hL, hS.congr fun r hr => by rw [if_pos (by omega)]⟩
end Go.Proofs.Ytcmggfpcbijcjaa
end
section
/-
  gemv.MulT and gemv.Mul, of matrices and lists of our own, from 0.
-/
set_option linter.unusedSimpArgs false
set_option linter.unusedVariables false
open Go Go.RowKit Sedge
namespace Go.Proofs.Ytcmggfpcbijcjaa
theorem vec1_right' {X : List Nat} {n : Nat} (h : X.length = n) (h1 : 1 ≤ n) : VecM.right ⟨X, 0, n, 1⟩ = true := by
  simp only [VecM.right, fitsB, Bool.and_eq_true, Bool.or_eq_true, decide_eq_true_eq]; refine ⟨by omega, .inr ⟨by omega, by omega⟩⟩
/-- gemv.MulT, r x c. -/
theorem mulT_tn (a α r c : Nat) (LA X Y : List Nat) (hr : r ≤ 64) (hr1 : 1 ≤ r) (hc : c ≤ 64) (hc1 : 1 ≤ c) (ga ca gv cv gy cy : Nat) (w : World) (ha : IsF a α) (hA : FW w ga LA) (hV : FW w gv X) (hY : FW w gy Y) (eA : LA.length = r * c) (eV : X.length = r) (eY : Y.length = c) (n1 : ga ≠ gy) (n2 : gv ≠ gy) :
    Calls Try.prog 84 #[.float .f64 a, .agg #[.slice (some ⟨ga, 0, none⟩) (r * c) ca, .int .i64 0, .int .i64 r, .int .i64 c, .int .i64 r], .agg #[.slice (some ⟨gv, 0, none⟩) r cv, .int .i64 0, .int .i64 r, .int .i64 1], .float .f64 0, .agg #[.slice (some ⟨gy, 0, none⟩) c cy, .int .i64 0, .int .i64 c, .int .i64 1]] w
      (fun e w' => e = .returned (.int .i64 0) ∧ But w [gy] w' ∧ ∃ Z, FW w' gy Z ∧ Z.length = c ∧ ∀ j, j < c → Z.getD j 0 = fadd 0 (fmul α (dotTo (colV ⟨LA, 0, r, c, r⟩ j) ⟨X, 0, r, 1⟩ r))) := by
  have hm : r * c ≤ 64 * 64 := Nat.mul_le_mul hr hc
  have h := mulT_ok a α 0 0 ⟨LA, 0, r, c, r⟩ ⟨X, 0, r, 1⟩ ⟨Y, 0, c, 1⟩ ga ca gv cv gy cy w ha isF_zero
    ⟨hA.fs (by omega) ca, hV.fs (by omega) cv, hY.fs (by omega) cy, FW.plain hA, FW.plain hV, FW.plain hY, matd_good eA hr1 hc1, vec1_right' eV hr1, vec1_right' eY hc1,
      rfl, rfl, by rw [show decide (gy = ga) = false by simpa using n1.symm]; simp [meetM], by rw [show decide (gy = gv) = false by simpa using n2.symm]; simp [meetM], by simp [MatM.wf, I64]; omega, by simp [VecM.wf, I64]; omega, by simp [VecM.wf, I64]; omega, by show LA.length ≤ _; omega, by show X.length ≤ _; omega, by show Y.length ≤ _; omega⟩
    hY n1 n2 (by show (0 : Int) < r; omega)
  simp only at h
  rw [eA, eV, eY] at h
  refine h.mono fun e w' hh => ?_
  obtain ⟨rfl, q1, Z, q2, q3⟩ := hh
  refine ⟨rfl, q1, Z, q2, by rw [q3.len]; exact eY, fun j hj => ?_⟩
  have hz := q3.get j (by show (j : Int) < c; omega)
  have e3 : VecM.place ⟨Y, 0, c, 1⟩ j = j := by unfold VecM.place; simp
  rw [e3] at hz
  rw [hz, beginF_zero]
  simp
/-- gemv.Mul, r x c. -/
theorem mul_tn (a α r c : Nat) (LA X Y : List Nat) (hr : r ≤ 64) (hr1 : 1 ≤ r) (hc : c ≤ 64) (hc1 : 1 ≤ c) (ga ca gv cv gy cy : Nat) (w : World) (ha : IsF a α) (hA : FW w ga LA) (hV : FW w gv X) (hY : FW w gy Y) (eA : LA.length = r * c) (eV : X.length = c) (eY : Y.length = r) (n1 : ga ≠ gy) (n2 : gv ≠ gy) :
    Calls Try.prog 71 #[.float .f64 a, .agg #[.slice (some ⟨ga, 0, none⟩) (r * c) ca, .int .i64 0, .int .i64 r, .int .i64 c, .int .i64 r], .agg #[.slice (some ⟨gv, 0, none⟩) c cv, .int .i64 0, .int .i64 c, .int .i64 1], .float .f64 0, .agg #[.slice (some ⟨gy, 0, none⟩) r cy, .int .i64 0, .int .i64 r, .int .i64 1]] w
      (fun e w' => e = .returned (.int .i64 0) ∧ But w [gy] w' ∧ ∃ Z, FW w' gy Z ∧ Z.length = r ∧ ∀ i, i < r → Z.getD i 0 = mulTo α (MatM.num ⟨LA, 0, r, c, r⟩) (VecM.num ⟨X, 0, c, 1⟩) 0 i c) := by
  have hm : r * c ≤ 64 * 64 := Nat.mul_le_mul hr hc
  have h := mul_ok a α 0 0 ⟨LA, 0, r, c, r⟩ ⟨X, 0, c, 1⟩ ⟨Y, 0, r, 1⟩ ga ca gv cv gy cy w ha isF_zero
    ⟨hA.fs (by omega) ca, hV.fs (by omega) cv, hY.fs (by omega) cy, FW.plain hA, FW.plain hV, FW.plain hY, matd_good eA hr1 hc1, vec1_right' eV hc1, vec1_right' eY hr1,
      rfl, rfl, by rw [show decide (gy = ga) = false by simpa using n1.symm]; simp [meetM], by rw [show decide (gy = gv) = false by simpa using n2.symm]; simp [meetM], by simp [MatM.wf, I64]; omega, by simp [VecM.wf, I64]; omega, by simp [VecM.wf, I64]; omega, by show LA.length ≤ _; omega, by show X.length ≤ _; omega, by show Y.length ≤ _; omega⟩
    hY (by show (0 : Int) < r; omega) (fun e => absurd e n1) (fun e => absurd e n2) hA.lt hV.lt
  simp only at h
  rw [eA, eV, eY] at h
  refine h.mono fun e w' hh => ?_
  obtain ⟨rfl, q1, Z, q2, q3⟩ := hh
  refine ⟨rfl, q1, Z, q2, by rw [q3.len]; exact eY, fun j hj => ?_⟩
  have hz := q3.get j (by show (j : Int) < r; omega)
  have e3 : VecM.place ⟨Y, 0, r, 1⟩ j = j := by unfold VecM.place; simp
  rw [e3] at hz
  rw [hz, beginF_zero]
  simp
end Go.Proofs.Ytcmggfpcbijcjaa
end
section
/-
  Contract for LacnBelow: lacn.Dense (115) of a dense matrix, off what its machine keeps.
-/
set_option linter.unusedSimpArgs false
set_option linter.unusedVariables false
open Go Go.RowKit Sedge
namespace Go.Proofs.Ytcmggfpcbijcjaa
def RelD (w : World) (p n : Nat) (P : LM → List Nat → Nat → Prop) (y kd : Value) (wr : World) : Prop :=
  ∃ m Y k, kd = .int .i64 (k : Nat) ∧ (k ≠ 0 → ∃ g, y = .slice (some ⟨g, 0, none⟩) n n ∧ g ≠ p ∧ FW wr g Y) ∧ (k = 0 → y = .slice none 0 0) ∧ WFs n m Y k ∧ P m Y k ∧ MS wr p n m ∧ Grew w wr
theorem RelD.next {w w1 wr : World} {p n : Nat} {P : LM → List Nat → Nat → Prop} {m' : LM} {Y' : List Nat} {k' : Nat} {e : Ending} (hz : w.heap.size ≤ p) (hg : Grew w w1) (hlt : p < w1.heap.size) (hwf : WFs n m' Y' k') (hP : P m' Y' k') (h : NextPost p n w1 m' Y' k' e wr) :
    ∃ y, e = .returned (.tuple #[y, .int .i64 (k' : Nat)]) ∧ (∃ a b c, y = .slice a b c) ∧ RelD w p n P y (.int .i64 (k' : Nat)) wr := by
  obtain ⟨h1, h2, h3, h4⟩ := h
  have gw := h3.grew0 hg (by intro k hk; simp at hk; omega)
  by_cases hk : k' = 0
  · exact ⟨_, by rw [h2 hk, hk]; rfl, ⟨_, _, _, rfl⟩, m', Y', k', rfl, fun h => absurd hk h, fun _ => rfl, hwf, hP, h4, gw⟩
  · obtain ⟨g, e1, e2, e3⟩ := h1 hk
    exact ⟨_, e1, ⟨_, _, _, rfl⟩, m', Y', k', rfl, fun _ => ⟨g, rfl, by omega, e3⟩, fun h => absurd h hk, hwf, hP, h4, gw⟩
theorem WFs.kind {n : Nat} {m : LM} {Y : List Nat} {k : Nat} (h : WFs n m Y k) : k = 0 ∨ k = 1 ∨ k = 2 := by
  unfold WFs at h; omega
theorem WFs.len {n : Nat} {m : LM} {Y : List Nat} {k : Nat} (h : WFs n m Y k) (hk : k ≠ 0) : Y.length = n := by
  unfold WFs at h
  rcases h with ⟨a, b, q⟩ | ⟨a, b, q1, q2, q3⟩ | ⟨a, b, q1, q2, q3, q4, q5⟩ | ⟨a, b, q1, q2, q3, q4, q5⟩ | ⟨a, b, q1, q2⟩ | ⟨a, b⟩
  · rw [q]; simp
  · exact q2
  · rw [q5]; simp
  · exact q5
  · rw [q2]; simp
  · exact absurd b hk
set_option maxRecDepth 100000 in
set_option maxHeartbeats 4000000 in
theorem lacn_dense (n : Nat) (h1 : 1 ≤ n) (h2 : n ≤ 12) (LA : List Nat) (eA : LA.length = n * n) (ga ca : Nat) (w : World) (hA : FW w ga LA) (P : LM → List Nat → Nat → Prop) (hP0 : P ⟨1, 0, [], 0, 0⟩ ((List.range n).map (firstW n)) 1)
    (hstep : ∀ m Y k X m' Y' k', WFs n m Y k → P m Y k → X.length = n → (k = 1 → ∀ i, i < n → X.getD i 0 = mulTo 4607182418800017408 (MatM.num ⟨LA, 0, n, n, n⟩) (VecM.num ⟨Y, 0, n, 1⟩) 0 i n) → (k = 2 → ∀ j, j < n → X.getD j 0 = fadd 0 (fmul 4607182418800017408 (dotTo (colV ⟨LA, 0, n, n, n⟩ j) ⟨Y, 0, n, 1⟩ n))) → LStep n X m m' Y' k' → P m' Y' k') :
    Calls Try.prog 115 #[.agg #[.slice (some ⟨ga, 0, none⟩) (n * n) ca, .int .i64 0, .int .i64 n, .int .i64 n, .int .i64 n]] w (fun e w' => ∃ (r : Nat) (asks : Int) (m : LM) (Y : List Nat), e = .returned (.tuple #[.float .f64 r, .int .i64 asks, .int .i64 0]) ∧ IsF r m.E ∧ WFs n m Y 0 ∧ P m Y 0 ∧ ∃ o n, w' = ext w o n) := by
  have hgd : ∀ w', Grew w w' → Calls Try.prog 130 #[.agg #[.slice (some ⟨ga, 0, none⟩) (n * n) ca, .int .i64 0, .int .i64 n, .int .i64 n, .int .i64 n]] w' (fun e w2 => e = .returned (.bool true) ∧ ∃ o n, w2 = ext w' o n) := fun w' g => by
    have hnn : n * n ≤ 12 * 12 := Nat.mul_le_mul h2 h2
    have := good_any ⟨LA, 0, n, n, n⟩ (.slice (some ⟨ga, 0, none⟩) (n * n) ca) w' (by have := (hA.grew g).fs (by omega) ca; rw [eA] at this; exact this) (by simp [MatM.wf, I64]; omega); rw [matd_good eA h1 h1] at this; exact this
  have HP0 := hid hP0
  have HST := hid hstep
  have HEA := hid eA
  have d0 : ((n : Int) != (n : Int)) = false := by simp
  clear hP0 hstep eA
  go_enter Try.func115, Try.ntmps115
  refine seq_stop ?_
  go_wp2
  refine stop_go (fun W hW => ?_)
  have s1 : w.heap.size < W.heap.size := by rw [hW]; simp only [World.size_alloc]; omega
  have b1 : ∀ i, W.cell? ⟨w.heap.size, i, none⟩ = (#[.slice (some ⟨ga, 0, none⟩) (n * n) ca, .int .i64 0, .int .i64 n, .int .i64 n, .int .i64 n] : Array Value)[i]? := by intro i; rw [hW]; go_simp
  have X1 : Box W (w.heap.size) #[.slice (some ⟨ga, 0, none⟩) (n * n) ca, .int .i64 0, .int .i64 n, .int .i64 n, .int .i64 n] := by rw [hW]; exact Box.new' (by first | rfl | (simp only [World.size_alloc]; done) | (simp only [World.size_alloc]; omega))
  have f1 : ∀ i, W.frozen? ⟨w.heap.size, i, none⟩ = false := by intro i; rw [hW]; go_simp
  have g0 : Grew w W := by rw [hW]; exact (Grew.refl _).alloc _
  clear hW
  have hAW := hA.grew g0
  have gd2 := fun w' (g : Grew W w') => hgd w' (Grew.trans g0 g)
  clear hgd hA f1
  go_upto_region 6 with (first | (go_at_call 130; ((with_reducible refine (gd2 _ (by (show Grew _ _; (try simp only [← Array.append_assoc]); repeat (first | (with_reducible exact Grew.same_o) | (with_reducible exact Grew.refl _) | (with_reducible assumption) | (with_reducible refine Grew.alloc ?_ _) | (with_reducible refine Grew.app_r ?_) | ((with_reducible refine Grew.setCell ?_ ?_ _); rotate_left; (focus (dsimp only; first | omega | (simp only [size_ext, World.size_alloc, Array.size_append]; omega)))) | (with_reducible refine Grew.ext ?_ _ _) | (with_reducible refine Grew.drewN ?_ _) | (with_reducible refine Grew.drew ?_))))).mono ?_); rintro e w1 ⟨rfl, o1, n1, rfl⟩)) | (go_at_call 188; ((with_reducible refine (lnew_ok n _ h1 (by omega)).mono ?_); rintro e w1 ⟨p, rfl, hz, hBox, o2, n2, rfl⟩)))
  refine name_any (fun V hV => ?_)
  simp only [size_ext, ext_ext] at hz hBox
  have gV : Grew W V := by rw [← hV]; (show Grew _ _; (try simp only [← Array.append_assoc]); repeat (first | (with_reducible exact Grew.same_o) | (with_reducible exact Grew.refl _) | (with_reducible assumption) | (with_reducible refine Grew.alloc ?_ _) | (with_reducible refine Grew.app_r ?_) | ((with_reducible refine Grew.setCell ?_ ?_ _); rotate_left; (focus (dsimp only; first | omega | (simp only [size_ext, World.size_alloc, Array.size_append]; omega)))) | (with_reducible refine Grew.ext ?_ _ _) | (with_reducible refine Grew.drewN ?_ _) | (with_reducible refine Grew.drew ?_)))
  have pV : Box V p #[.int .i64 n, .int .i64 0, .float .f64 0, .slice none 0 0, .slice none 0 0, .int .i64 0, .int .i64 0] := by rw [← hV]; exact hBox.grew (by (show Grew _ _; (try simp only [← Array.append_assoc]); repeat (first | (with_reducible exact Grew.same_o) | (with_reducible exact Grew.refl _) | (with_reducible assumption) | (with_reducible refine Grew.alloc ?_ _) | (with_reducible refine Grew.app_r ?_) | ((with_reducible refine Grew.setCell ?_ ?_ _); rotate_left; (focus (dsimp only; first | omega | (simp only [size_ext, World.size_alloc, Array.size_append]; omega)))) | (with_reducible refine Grew.ext ?_ _ _) | (with_reducible refine Grew.drewN ?_ _) | (with_reducible refine Grew.drew ?_))))
  have zW := g0.below.size
  have zp : W.heap.size ≤ p := by omega
  have zp0 : w.heap.size ≤ p := by omega
  clear hV hBox hz
  have mV : MS V p n ⟨0, 0, [], 0, 0⟩ := ⟨0, none, 0, 0, none, 0, 0, pV, isF_zero, FS.nil _, fun k hk => by simp [Value.ownBlock] at hk⟩
  have hnb := next_begin n p 0 0 0 [] h1 h2 V mV
  have gwV := Grew.trans g0 gV
  have lpV := pV.lt
  go_upto_region 7 with (first | (go_at_call 189; ((with_reducible refine hnb.mono ?_); rintro e w4 hpost; (obtain ⟨y, rfl, ⟨ya, yb, yc, rfl⟩, hrel0⟩ := RelD.next (P := P) zp gV lpV (.inl ⟨rfl, rfl, rfl⟩) HP0.out hpost))))
  go_loopw [3, 6, 7, 8] (fun a y kd x wr => ∃ asks : Int, a = .int .i64 asks ∧ RelD W p n P y kd wr ∧ ∃ b c d, y = .slice b c d) (fun _ _ _ _ wr => rankW wr p)
  case atStart => exact ⟨0, rfl, hrel0, ⟨_, _, _, rfl⟩⟩
  case round =>
    clear hrel0 mV pV gwV
    obtain ⟨asks, rfl, ⟨m, Y, k, rfl, hy1, hy2, hwf, hP, mr, gr⟩, ⟨b, c, d, rfl⟩⟩ := hrel
    rcases hwf.kind with hkk | hkk | hkk
    · subst hkk
      have hle := lest_ok n p m
      go_wp2_with (first | (go_at_call 191; ((with_reducible refine (lest_ok n p m _ mr).mono ?_); rintro e w1 ⟨r, rfl, hr, o3, n3, rfl⟩)))
      refine bodyPost_ret (v := .tuple #[.float .f64 r, .int .i64 asks, .int .i64 0]) (by simp [results, Try.results115, go_sem, *]) rfl ?_
      exact ⟨r, asks, m, Y, rfl, hr, hwf, hP, Grew.trans g0 (Grew.trans gr (by (show Grew _ _; (try simp only [← Array.append_assoc]); repeat (first | (with_reducible exact Grew.same_o) | (with_reducible exact Grew.refl _) | (with_reducible assumption) | (with_reducible refine Grew.alloc ?_ _) | (with_reducible refine Grew.app_r ?_) | ((with_reducible refine Grew.setCell ?_ ?_ _); rotate_left; (focus (dsimp only; first | omega | (simp only [size_ext, World.size_alloc, Array.size_append]; omega)))) | (with_reducible refine Grew.ext ?_ _ _) | (with_reducible refine Grew.drewN ?_ _) | (with_reducible refine Grew.drew ?_)))))⟩
    · have hk0 : k ≠ 0 := by omega
      obtain ⟨g, ey, ngp, FY⟩ := hy1 hk0
      simp only [Value.slice.injEq] at ey
      obtain ⟨eb, ec, ed⟩ := ey
      have ec := ec.symm
      have ed := ed.symm
      subst eb
      subst ec
      subst ed
      have hYl : Y.length = n := hwf.len hk0
      clear hy1 hy2
      have AR := X1.grew gr
      have tA := AR.cell
      have lA := AR.lt
      have zr := gr.below.size
      have lp := mr.lt
      subst hkk
      go_upto_region 10 with (at_make; refine make_f (L := (n : Int)) finfo (Grew.refl wr) _ _ rfl rfl n rfl rfl rfl (by omega) ?_; intro oo nn gx hg ho; have hF := ho.made)
      refine name_any (fun V1 hV1 => ?_)
      have gV1 : Grew wr V1 := by rw [← hV1]; (show Grew _ _; (try simp only [← Array.append_assoc]); repeat (first | (with_reducible exact Grew.same_o) | (with_reducible exact Grew.refl _) | (with_reducible assumption) | (with_reducible refine Grew.alloc ?_ _) | (with_reducible refine Grew.app_r ?_) | ((with_reducible refine Grew.setCell ?_ ?_ _); rotate_left; (focus (dsimp only; first | omega | (simp only [size_ext, World.size_alloc, Array.size_append]; omega)))) | (with_reducible refine Grew.ext ?_ _ _) | (with_reducible refine Grew.drewN ?_ _) | (with_reducible refine Grew.drew ?_)))
      have FX : FW V1 gx (List.replicate n 0) := by rw [← hV1]; exact hF.grew (by (show Grew _ _; (try simp only [← Array.append_assoc]); repeat (first | (with_reducible exact Grew.same_o) | (with_reducible exact Grew.refl _) | (with_reducible assumption) | (with_reducible refine Grew.alloc ?_ _) | (with_reducible refine Grew.app_r ?_) | ((with_reducible refine Grew.setCell ?_ ?_ _); rotate_left; (focus (dsimp only; first | omega | (simp only [size_ext, World.size_alloc, Array.size_append]; omega)))) | (with_reducible refine Grew.ext ?_ _ _) | (with_reducible refine Grew.drewN ?_ _) | (with_reducible refine Grew.drew ?_))))
      have FA := (hAW.grew gr).grew gV1
      have FY1 := FY.grew gV1
      have ngx : gx ≠ p := by omega
      have nga : ga ≠ gx := by have := hAW.lt; omega
      have ngy : g ≠ gx := by have := FY.lt; omega
      have AV1 := AR.grew gV1
      have tA1 := AV1.cell
      have lA1 := AV1.lt
      clear hV1 hF ho
      have hmul := fun w' (gg : Grew V1 w') => mul_tn 4607182418800017408 4607182418800017408 n n LA Y (List.replicate n 0) (by omega) h1 (by omega) h1 ga ca g n gx n w' isF_one (FA.grew gg) (FY1.grew gg) (FX.grew gg) HEA.out hYl (by simp) nga ngy
      go_upto_region 11 with fail
      refine wp_region_R (Grew wr) [] [(0,0), (0,1), (0,3), (1,2), (1,4), (1,5)] (by kernel_rfl) (by kernel_rfl) (fun _ _ _ _ h _ => h) (by first | exact ⟨_, _, ext_drew⟩ | exact ⟨_, _, drew_ext0⟩ | (show Grew _ _; repeat (first | (with_reducible exact Grew.refl _) | (with_reducible assumption) | (with_reducible exact Grew.same_o) | (with_reducible exact Grew.app_o) | (with_reducible refine Grew.ext ?_ _ _) | (with_reducible refine Grew.alloc ?_ _) | ((with_reducible refine Grew.setCell ?_ ?_ _); rotate_left; (focus (dsimp only; first | omega | (simp only [size_ext, World.size_alloc, Array.size_append]; omega)))) | (with_reducible refine Grew.drewN ?_ _) | (with_reducible refine Grew.drew ?_)))) ?_
      go_upto_region 13 with (first | ((with_reducible refine wpR_id ?_); first | (refine wpR_take (v := ?_) rfl rfl ?_ ?_; rotate_left; (focus (rintro w' ⟨o', n', rfl⟩; go_simp; try with_reducible rfl)); simp only [Act.put, List.setIfInBounds_toArray, List.set_cons_zero, List.set_cons_succ]) | (refine wpR_pure (v := ?_) rfl rfl ?_ ?_; rotate_left; (focus (intro w'; go_simp; try with_reducible rfl)); simp only [Act.put, List.setIfInBounds_toArray, List.set_cons_zero, List.set_cons_succ]) | (refine wpR_takeG (v := ?_) rfl rfl rfl rfl rfl ?_ ?_; rotate_left; (focus (rintro w' ⟨o', n', rfl⟩; go_simp; try with_reducible rfl)); simp only [Act.put, List.setIfInBounds_toArray, List.set_cons_zero, List.set_cons_succ]) | (refine wpR_skip rfl rfl rfl rfl rfl rfl ?_; simp only [Act.put, List.setIfInBounds_toArray, List.set_cons_zero, List.set_cons_succ]) | (refine wpR_skipU rfl rfl rfl rfl rfl ?_; simp only [Act.put, List.setIfInBounds_toArray, List.set_cons_zero, List.set_cons_succ]) | (refine wpR_do rfl rfl (fun K hK => ?_)) | (refine wpR_doG rfl rfl rfl rfl rfl (fun K hK => ?_)) | (refine wpR_last rfl rfl (fun K hK => ?_)) | (refine wpR_nil ?_)) | ((with_reducible refine wpR_go ?_ ?_); (focus (show Grew _ _; repeat (first | (with_reducible exact Grew.refl _) | (with_reducible assumption) | (with_reducible exact Grew.same_o) | (with_reducible exact Grew.app_o) | (with_reducible refine Grew.ext ?_ _ _) | (with_reducible refine Grew.alloc ?_ _) | ((with_reducible refine Grew.setCell ?_ ?_ _); rotate_left; (focus (dsimp only; first | omega | (simp only [size_ext, World.size_alloc, Array.size_append]; omega)))) | (with_reducible refine Grew.drewN ?_ _) | (with_reducible refine Grew.drew ?_))))) | ((with_reducible refine upon_id ?_); refine upon_fop rfl (by assumption) (by assumption) ?_; intro rr nn hr) | (go_at_call 190; ((with_reducible refine (lvec_any _ _ _ _).mono ?_); rintro e w1 ⟨rfl, o3, n3, rfl⟩)) | (go_at_call 71; ((with_reducible refine (hmul _ (by (show Grew _ _; (try simp only [← Array.append_assoc]); repeat (first | (with_reducible exact Grew.same_o) | (with_reducible exact Grew.refl _) | (with_reducible assumption) | (with_reducible refine Grew.alloc ?_ _) | (with_reducible refine Grew.app_r ?_) | ((with_reducible refine Grew.setCell ?_ ?_ _); rotate_left; (focus (dsimp only; first | omega | (simp only [size_ext, World.size_alloc, Array.size_append]; omega)))) | (with_reducible refine Grew.ext ?_ _ _) | (with_reducible refine Grew.drewN ?_ _) | (with_reducible refine Grew.drew ?_))))).mono ?_); rintro e w5 ⟨rfl, hb5, Z, FZ, eZ, hZ⟩; (have gM : Grew wr w5 := hb5.grew0 (Grew.trans gV1 (by (show Grew _ _; (try simp only [← Array.append_assoc]); repeat (first | (with_reducible exact Grew.same_o) | (with_reducible exact Grew.refl _) | (with_reducible assumption) | (with_reducible refine Grew.alloc ?_ _) | (with_reducible refine Grew.app_r ?_) | ((with_reducible refine Grew.setCell ?_ ?_ _); rotate_left; (focus (dsimp only; first | omega | (simp only [size_ext, World.size_alloc, Array.size_append]; omega)))) | (with_reducible refine Grew.ext ?_ _ _) | (with_reducible refine Grew.drewN ?_ _) | (with_reducible refine Grew.drew ?_))))) (by intro k hk; simp at hk; omega)))))
      refine name_any (fun V3 hV3 => ?_)
      have g53 : Grew w5 V3 := by rw [← hV3]; (show Grew _ _; (try simp only [← Array.append_assoc]); repeat (first | (with_reducible exact Grew.same_o) | (with_reducible exact Grew.refl _) | (with_reducible assumption) | (with_reducible refine Grew.alloc ?_ _) | (with_reducible refine Grew.app_r ?_) | ((with_reducible refine Grew.setCell ?_ ?_ _); rotate_left; (focus (dsimp only; first | omega | (simp only [size_ext, World.size_alloc, Array.size_append]; omega)))) | (with_reducible refine Grew.ext ?_ _ _) | (with_reducible refine Grew.drewN ?_ _) | (with_reducible refine Grew.drew ?_)))
      have gW3 : Grew W V3 := Grew.trans gr (Grew.trans gM g53)
      have mV3 := mr.grew (Grew.trans gM g53)
      have lp3 := mV3.lt
      have hnx := next_ok n p m Y 1 h1 h2 V3 Z gx n (FZ.grew g53) eZ ngx hwf hk0 mV3
      clear hV3
      go_wp2_with (first | (go_at_call 189; ((with_reducible refine hnx.mono ?_); rintro e w4 ⟨m', Y', k', hs, hpost⟩; (obtain ⟨hw', hr'⟩ := WFs.next h1 hwf eZ hs); (obtain ⟨y', rfl, ⟨ya', yb', yc', rfl⟩, hrel'⟩ := RelD.next (P := P) zp gW3 lp3 hw' (HST.out m Y 1 Z m' Y' k' hwf hP eZ (fun _ => hZ) (fun h => by cases h) hs) hpost))))
      go_roundw
      case rel => exact ⟨_, rfl, hrel', ⟨_, _, _, rfl⟩⟩
      case measure => rw [hpost.2.2.2.rank, mr.rank]; exact hr'
    · have hk0 : k ≠ 0 := by omega
      obtain ⟨g, ey, ngp, FY⟩ := hy1 hk0
      simp only [Value.slice.injEq] at ey
      obtain ⟨eb, ec, ed⟩ := ey
      have ec := ec.symm
      have ed := ed.symm
      subst eb
      subst ec
      subst ed
      have hYl : Y.length = n := hwf.len hk0
      clear hy1 hy2
      have AR := X1.grew gr
      have tA := AR.cell
      have lA := AR.lt
      have zr := gr.below.size
      have lp := mr.lt
      subst hkk
      go_upto_region 10 with (at_make; refine make_f (L := (n : Int)) finfo (Grew.refl wr) _ _ rfl rfl n rfl rfl rfl (by omega) ?_; intro oo nn gx hg ho; have hF := ho.made)
      refine name_any (fun V1 hV1 => ?_)
      have gV1 : Grew wr V1 := by rw [← hV1]; (show Grew _ _; (try simp only [← Array.append_assoc]); repeat (first | (with_reducible exact Grew.same_o) | (with_reducible exact Grew.refl _) | (with_reducible assumption) | (with_reducible refine Grew.alloc ?_ _) | (with_reducible refine Grew.app_r ?_) | ((with_reducible refine Grew.setCell ?_ ?_ _); rotate_left; (focus (dsimp only; first | omega | (simp only [size_ext, World.size_alloc, Array.size_append]; omega)))) | (with_reducible refine Grew.ext ?_ _ _) | (with_reducible refine Grew.drewN ?_ _) | (with_reducible refine Grew.drew ?_)))
      have FX : FW V1 gx (List.replicate n 0) := by rw [← hV1]; exact hF.grew (by (show Grew _ _; (try simp only [← Array.append_assoc]); repeat (first | (with_reducible exact Grew.same_o) | (with_reducible exact Grew.refl _) | (with_reducible assumption) | (with_reducible refine Grew.alloc ?_ _) | (with_reducible refine Grew.app_r ?_) | ((with_reducible refine Grew.setCell ?_ ?_ _); rotate_left; (focus (dsimp only; first | omega | (simp only [size_ext, World.size_alloc, Array.size_append]; omega)))) | (with_reducible refine Grew.ext ?_ _ _) | (with_reducible refine Grew.drewN ?_ _) | (with_reducible refine Grew.drew ?_))))
      have FA := (hAW.grew gr).grew gV1
      have FY1 := FY.grew gV1
      have ngx : gx ≠ p := by omega
      have nga : ga ≠ gx := by have := hAW.lt; omega
      have ngy : g ≠ gx := by have := FY.lt; omega
      have AV1 := AR.grew gV1
      have tA1 := AV1.cell
      have lA1 := AV1.lt
      clear hV1 hF ho
      have hmul := fun w' (gg : Grew V1 w') => mulT_tn 4607182418800017408 4607182418800017408 n n LA Y (List.replicate n 0) (by omega) h1 (by omega) h1 ga ca g n gx n w' isF_one (FA.grew gg) (FY1.grew gg) (FX.grew gg) HEA.out hYl (by simp) nga ngy
      go_upto_region 12 with fail
      refine wp_region_R (Grew wr) [] [(0,0), (0,1), (0,3), (1,2), (1,4), (1,5)] (by kernel_rfl) (by kernel_rfl) (fun _ _ _ _ h _ => h) (by first | exact ⟨_, _, ext_drew⟩ | exact ⟨_, _, drew_ext0⟩ | (show Grew _ _; repeat (first | (with_reducible exact Grew.refl _) | (with_reducible assumption) | (with_reducible exact Grew.same_o) | (with_reducible exact Grew.app_o) | (with_reducible refine Grew.ext ?_ _ _) | (with_reducible refine Grew.alloc ?_ _) | ((with_reducible refine Grew.setCell ?_ ?_ _); rotate_left; (focus (dsimp only; first | omega | (simp only [size_ext, World.size_alloc, Array.size_append]; omega)))) | (with_reducible refine Grew.drewN ?_ _) | (with_reducible refine Grew.drew ?_)))) ?_
      go_upto_region 13 with (first | ((with_reducible refine wpR_id ?_); first | (refine wpR_take (v := ?_) rfl rfl ?_ ?_; rotate_left; (focus (rintro w' ⟨o', n', rfl⟩; go_simp; try with_reducible rfl)); simp only [Act.put, List.setIfInBounds_toArray, List.set_cons_zero, List.set_cons_succ]) | (refine wpR_pure (v := ?_) rfl rfl ?_ ?_; rotate_left; (focus (intro w'; go_simp; try with_reducible rfl)); simp only [Act.put, List.setIfInBounds_toArray, List.set_cons_zero, List.set_cons_succ]) | (refine wpR_takeG (v := ?_) rfl rfl rfl rfl rfl ?_ ?_; rotate_left; (focus (rintro w' ⟨o', n', rfl⟩; go_simp; try with_reducible rfl)); simp only [Act.put, List.setIfInBounds_toArray, List.set_cons_zero, List.set_cons_succ]) | (refine wpR_skip rfl rfl rfl rfl rfl rfl ?_; simp only [Act.put, List.setIfInBounds_toArray, List.set_cons_zero, List.set_cons_succ]) | (refine wpR_skipU rfl rfl rfl rfl rfl ?_; simp only [Act.put, List.setIfInBounds_toArray, List.set_cons_zero, List.set_cons_succ]) | (refine wpR_do rfl rfl (fun K hK => ?_)) | (refine wpR_doG rfl rfl rfl rfl rfl (fun K hK => ?_)) | (refine wpR_last rfl rfl (fun K hK => ?_)) | (refine wpR_nil ?_)) | ((with_reducible refine wpR_go ?_ ?_); (focus (show Grew _ _; repeat (first | (with_reducible exact Grew.refl _) | (with_reducible assumption) | (with_reducible exact Grew.same_o) | (with_reducible exact Grew.app_o) | (with_reducible refine Grew.ext ?_ _ _) | (with_reducible refine Grew.alloc ?_ _) | ((with_reducible refine Grew.setCell ?_ ?_ _); rotate_left; (focus (dsimp only; first | omega | (simp only [size_ext, World.size_alloc, Array.size_append]; omega)))) | (with_reducible refine Grew.drewN ?_ _) | (with_reducible refine Grew.drew ?_))))) | ((with_reducible refine upon_id ?_); refine upon_fop rfl (by assumption) (by assumption) ?_; intro rr nn hr) | (go_at_call 190; ((with_reducible refine (lvec_any _ _ _ _).mono ?_); rintro e w1 ⟨rfl, o3, n3, rfl⟩)) | (go_at_call 84; ((with_reducible refine (hmul _ (by (show Grew _ _; (try simp only [← Array.append_assoc]); repeat (first | (with_reducible exact Grew.same_o) | (with_reducible exact Grew.refl _) | (with_reducible assumption) | (with_reducible refine Grew.alloc ?_ _) | (with_reducible refine Grew.app_r ?_) | ((with_reducible refine Grew.setCell ?_ ?_ _); rotate_left; (focus (dsimp only; first | omega | (simp only [size_ext, World.size_alloc, Array.size_append]; omega)))) | (with_reducible refine Grew.ext ?_ _ _) | (with_reducible refine Grew.drewN ?_ _) | (with_reducible refine Grew.drew ?_))))).mono ?_); rintro e w5 ⟨rfl, hb5, Z, FZ, eZ, hZ⟩; (have gM : Grew wr w5 := hb5.grew0 (Grew.trans gV1 (by (show Grew _ _; (try simp only [← Array.append_assoc]); repeat (first | (with_reducible exact Grew.same_o) | (with_reducible exact Grew.refl _) | (with_reducible assumption) | (with_reducible refine Grew.alloc ?_ _) | (with_reducible refine Grew.app_r ?_) | ((with_reducible refine Grew.setCell ?_ ?_ _); rotate_left; (focus (dsimp only; first | omega | (simp only [size_ext, World.size_alloc, Array.size_append]; omega)))) | (with_reducible refine Grew.ext ?_ _ _) | (with_reducible refine Grew.drewN ?_ _) | (with_reducible refine Grew.drew ?_))))) (by intro k hk; simp at hk; omega)))))
      refine name_any (fun V3 hV3 => ?_)
      have g53 : Grew w5 V3 := by rw [← hV3]; (show Grew _ _; (try simp only [← Array.append_assoc]); repeat (first | (with_reducible exact Grew.same_o) | (with_reducible exact Grew.refl _) | (with_reducible assumption) | (with_reducible refine Grew.alloc ?_ _) | (with_reducible refine Grew.app_r ?_) | ((with_reducible refine Grew.setCell ?_ ?_ _); rotate_left; (focus (dsimp only; first | omega | (simp only [size_ext, World.size_alloc, Array.size_append]; omega)))) | (with_reducible refine Grew.ext ?_ _ _) | (with_reducible refine Grew.drewN ?_ _) | (with_reducible refine Grew.drew ?_)))
      have gW3 : Grew W V3 := Grew.trans gr (Grew.trans gM g53)
      have mV3 := mr.grew (Grew.trans gM g53)
      have lp3 := mV3.lt
      have hnx := next_ok n p m Y 2 h1 h2 V3 Z gx n (FZ.grew g53) eZ ngx hwf hk0 mV3
      clear hV3
      go_wp2_with (first | (go_at_call 189; ((with_reducible refine hnx.mono ?_); rintro e w4 ⟨m', Y', k', hs, hpost⟩; (obtain ⟨hw', hr'⟩ := WFs.next h1 hwf eZ hs); (obtain ⟨y', rfl, ⟨ya', yb', yc', rfl⟩, hrel'⟩ := RelD.next (P := P) zp gW3 lp3 hw' (HST.out m Y 2 Z m' Y' k' hwf hP eZ (fun h => by cases h) (fun _ => hZ) hs) hpost))))
      go_roundw
      case rel => exact ⟨_, rfl, hrel', ⟨_, _, _, rfl⟩⟩
      case measure => rw [hpost.2.2.2.rank, mr.rank]; exact hr'
end Go.Proofs.Ytcmggfpcbijcjaa
end
