/-
  The walk of the law AxesBack (layer 6).
-/
import Derived.Test.YtcmggfpcbijcjaaLawBack
set_option linter.unusedSimpArgs false
set_option linter.unusedVariables false
open Go Go.RowKit Sedge
namespace Go.Proofs.Ytcmggfpcbijcjaa
set_option maxRecDepth 100000 in
set_option maxHeartbeats 4000000 in
theorem axesBack_any (L : Value) (l : List Nat) (K : Value) (ks : List Int) (w : World) (hL : FS w L l) (hK : IS .u8 w K ks) (hz : ∀ z ∈ ks, IntKind.min .u8 ≤ z ∧ z ≤ IntKind.max .u8) :
   Calls Try.prog 13 #[L, K] w (fun e w' => e = .returned (.bool true) ∧ ∃ o n, w' = ext w o n) := by
  obtain ⟨aL, cL, rfl⟩ := hL.shape
  obtain ⟨aK, cK, rfl⟩ := hK.shape
  have hll := hL.len
  have hlk := hK.len
  by_cases c1 : 60 < l.length
  · have d1 : decide ((60 : Int) < (l.length : Int)) = true := by simp; omega
    clear hz
    go_enter Try.func13, Try.ntmps13
    go_wp2_with (first | (go_at_call 24; ((with_reducible refine (awake06 _).mono ?_); rintro e w1 ⟨rfl, o1, n1, rfl⟩)))
    go_ret
    exact ⟨rfl, by (show Grew _ _; repeat (first | (with_reducible exact Grew.refl _) | (with_reducible assumption) | (with_reducible refine Grew.ext ?_ _ _) | (with_reducible refine Grew.alloc ?_ _) | ((with_reducible refine Grew.setCell ?_ ?_ _); rotate_left; (focus (dsimp only; first | omega | (simp only [size_ext, World.size_alloc, Array.size_append]; omega)))) | (with_reducible refine Grew.drewN ?_ _) | (with_reducible refine Grew.drew ?_)))⟩
  · have d1 : decide ((60 : Int) < (l.length : Int)) = false := by simp; omega
    by_cases c2 : ks.length < l.length
    · have d2 : decide ((ks.length : Int) < (l.length : Int)) = true := by simp; omega
      clear hz
      go_enter Try.func13, Try.ntmps13
      go_wp2_with (first | (go_at_call 24; ((with_reducible refine (awake06 _).mono ?_); rintro e w1 ⟨rfl, o1, n1, rfl⟩)))
      go_ret
      exact ⟨rfl, by (show Grew _ _; repeat (first | (with_reducible exact Grew.refl _) | (with_reducible assumption) | (with_reducible refine Grew.ext ?_ _ _) | (with_reducible refine Grew.alloc ?_ _) | ((with_reducible refine Grew.setCell ?_ ?_ _); rotate_left; (focus (dsimp only; first | omega | (simp only [size_ext, World.size_alloc, Array.size_append]; omega)))) | (with_reducible refine Grew.drewN ?_ _) | (with_reducible refine Grew.drew ?_)))⟩
    · have d2 : decide ((ks.length : Int) < (l.length : Int)) = false := by simp; omega
      have hk255 : ∀ i, i < l.length → 0 ≤ ks.getD i 0 ∧ ks.getD i 0 ≤ 255 := fun i hi => by
        have hm : ks.getD i 0 ∈ ks := by rw [List.getD_eq_getElem?_getD, List.getElem?_eq_getElem (by omega)]; exact List.getElem_mem _
        have := hz _ hm
        simpa [IntKind.min, IntKind.max, IntKind.signed, IntKind.bits] using this
      have hcan : ∀ i, i < l.length → IsF (l.getD i 0) (l.getD i 0) := fun i hi => by
        obtain ⟨blk, o, e, _, hc⟩ := hL.at.2 (by omega)
        obtain ⟨b, _, hf⟩ := hc i hi
        exact hf.self
      have hlaw := back_law l ks hcan hk255
      have Hlaw := hid hlaw
      have HK := hid hk255
      clear hz hk255 hcan hlaw
      go_enter Try.func13, Try.ntmps13
      go_wp2_with (first | (go_at_call 24; ((with_reducible refine (awake06 _).mono ?_); rintro e w1 ⟨rfl, o1, n1, rfl⟩)))
      refine name_any (fun W hW => ?_)
      have g0 : Grew w W := by rw [← hW]; (show Grew _ _; repeat (first | (with_reducible exact Grew.refl _) | (with_reducible assumption) | (with_reducible refine Grew.ext ?_ _ _) | (with_reducible refine Grew.alloc ?_ _) | ((with_reducible refine Grew.setCell ?_ ?_ _); rotate_left; (focus (dsimp only; first | omega | (simp only [size_ext, World.size_alloc, Array.size_append]; omega)))) | (with_reducible refine Grew.drewN ?_ _) | (with_reducible refine Grew.drew ?_)))
      have hLW := hL.grew g0
      have hKW := hK.grew g0
      clear hW
      go_loopw [5, 6, 7] (fun u v c wr => ∃ (i : Nat) (o : Array Obj) (n : Nat), i ≤ l.length ∧ c = .int .i64 i ∧ wr = ext W o n ∧ OwnI wr W.heap.size u (upTo ks i) ∧ OwnI wr W.heap.size v (downTo ks i) ∧ ApartV u v) (fun _ _ c _ => l.length - (intOf c).toNat)
      case atStart => exact ⟨0, #[], _, Nat.zero_le _, rfl, ext_zero.symm, OwnI.nil _ _, OwnI.nil _ _, fun k hk => by simp [Value.ownBlock] at hk⟩
      case round =>
        obtain ⟨i, o3, n3, hi, rfl, hwr, hu, hv, hap⟩ := hrel
        have gw : Grew W wr := ⟨_, _, hwr⟩
        clear hwr
        by_cases hlt : i < l.length
        · obtain ⟨blk, o, e, hblk, hc⟩ := hKW.at.2 (by omega)
          subst e
          have hb := hc i (by omega)
          obtain ⟨z, hzz⟩ : ∃ z, Hid (z = ks.getD i 0) := ⟨_, hid rfl⟩
          have hr := HK.out i hlt
          rw [← hzz.out] at hb hr
          have r1 : IntKind.i64.wrap z = z := IntWalk.i64_in _ (by omega)
          have r2 : IntKind.i64.wrap (-z) = -z := IntWalk.i64_in _ (by omega)
          have hbr := (gw.cell hblk).trans hb
          clear hc
          have hu' : wr.ownsRow W.heap.size 3 1 u5 ((upTo ks i).map (Value.int .i64)).length ((upTo ks i).map (Value.int .i64)) := by rw [List.length_map]; exact hu
          have lu : ((upTo ks i).map (Value.int .i64)).length < 17592186044415 := by rw [List.length_map, upTo_length]; omega
          have lv : ((downTo ks i).map (Value.int .i64)).length < 17592186044415 := by rw [List.length_map, downTo_length]; omega
          go_wp2_with (first | (at_builtin; refine append1_v (z0 := .int .i64 0) iund iinfo rfl (W := W) (v := u5) (y := .int .i64 z) (xs := (upTo ks i).map (Value.int .i64)) ?_ ?_ rfl lu _ _ rfl rfl rfl ?_ rfl ?_; (focus exact gw); (focus exact hu'); (focus rfl); intro va oa na hoa hka; obtain ⟨hvb, hap3⟩ := hka 3 u6 _ _ hv hap.symm; (have hvb' : (ext W oa na).ownsRow W.heap.size 3 1 u6 ((downTo ks i).map (Value.int .i64)).length ((downTo ks i).map (Value.int .i64)) := by rw [List.length_map]; exact hvb); clear hka) | (at_builtin; refine append1_v (z0 := .int .i64 0) iund iinfo rfl (W := W) (v := u6) (y := .int .i64 (-z)) (xs := (downTo ks i).map (Value.int .i64)) ?_ ?_ rfl lv _ _ rfl rfl rfl ?_ rfl ?_; (focus exact ⟨_, _, rfl⟩); (focus exact hvb'); (focus (first | rfl | simp only [size_ext])); intro vb ob nb hob hkb; obtain ⟨hva2, hap4⟩ := hkb 3 va _ _ hoa hap3.symm; clear hkb))
          go_roundw
          case rel => exact ⟨i + 1, ob, nb, by omega, by go_num, rfl, by rw [upTo_succ, ← hzz.out]; simpa [OwnI] using hva2, by rw [downTo_succ, ← hzz.out]; simpa [OwnI] using hob, hap4⟩
          case measure => simp [intOf]; omega
        · have e : i = l.length := by omega
          rw [e] at hu hv
          have hLr := hLW.grew gw
          go_wp2_with (first | (go_at_call 70; ((with_reducible refine (copy1_any _ l _ hLr (by omega)).mono ?_); rintro e w1 ⟨v, rfl, ⟨g, cap, rfl, hg, hF, hgl⟩, hw1⟩)))
          refine name_call (fun V hV => ?_)
          have g1 : Grew wr w1 := hw1
          have gV : Grew wr V := by rw [← hV]; exact g1.alloc _
          have gwV : Grew w V := Grew.trans g0 (Grew.trans gw gV)
          have zw := gwV.below.size
          have z0 := g0.below.size
          have zwr := gw.below.size
          have hFV : FW V g l := by rw [← hV]; exact hF.alloc _
          have ltg := hF.lt
          have c8 : ∀ i, V.cell? ⟨w1.heap.size, i, none⟩ = (#[.slice (some ⟨g, 0, none⟩) l.length cap, .int .i64 0, .int .i64 l.length, .int .i64 1] : Array Value)[i]? := by subst hV; intro i; go_simp
          have k8 : w1.heap.size < V.heap.size := by rw [← hV]; simp only [World.size_alloc]; omega
          obtain ⟨T, hT⟩ : ∃ T, T = w1.heap.size := ⟨_, rfl⟩
          rw [← hT] at c8 k8 ltg
          simp only [← hT]
          have nTg : T ≠ g := by omega
          have ou := hu.grew gV
          have ov := hv.grew gV
          have nu : ∀ k, u5.ownBlock = some k → k ∉ [g] := fun k hk => by have := (World.ownsRow.lt hu k hk).2; simp; omega
          have nv : ∀ k, u6.ownBlock = some k → k ∉ [g] := fun k hk => by have := (World.ownsRow.lt hv k hk).2; simp; omega
          have cU : ∀ w', But V [g] w' → ∀ i, w'.cell? ⟨T, i, none⟩ = (#[.slice (some ⟨g, 0, none⟩) l.length cap, .int .i64 0, .int .i64 l.length, .int .i64 1] : Array Value)[i]? := fun w' h i => (h.cell k8 (by simpa using nTg)).trans (c8 i)
          have hDu : ∀ w', But V [g] w' → FS w' (.slice aL l.length cL) l := But.fs gwV hL (by intro k hk; simp at hk; omega)
          have hgw : ∀ k ∈ [g], w.heap.size ≤ k := by intro k hk; simp at hk; omega
          have hS1 : Calls Try.prog 85 #[.agg #[.slice (some ⟨g, 0, none⟩) l.length cap, .int .i64 0, .int .i64 l.length, .int .i64 1], u5] V (fun e w' => e = .returned (.int .i64 0) ∧ But V [g] w' ∧ FW w' g (upL l ks)) :=
            shift_any (vec1 l) g cap u5 (upTo ks l.length) V hFV (ou.is (by rw [upTo_length]; omega)) (vec1_right l) (by simp [VecM.wf, vec1, I64]; omega) (by show l.length ≤ _; omega) (by rw [upTo_length]; rfl) (fun w' hb => (ou.but hb nu).is (by rw [upTo_length]; omega))
          have hS2 : ∀ w', But V [g] w' → FW w' g (upL l ks) → Calls Try.prog 85 #[.agg #[.slice (some ⟨g, 0, none⟩) l.length cap, .int .i64 0, .int .i64 l.length, .int .i64 1], u6] w' (fun e w2 => e = .returned (.int .i64 0) ∧ But w' [g] w2 ∧ FW w2 g (backL l ks)) := fun w' hb h1 => by
            have := shift_any (vec1 (upL l ks)) g cap u6 (downTo ks l.length) w' h1 ((ov.but hb nv).is (by rw [downTo_length]; omega)) (vec1_right _) (by simp [VecM.wf, vec1, I64, upL_length]; omega) (by show (upL l ks).length ≤ _; rw [upL_length]; omega) (by rw [downTo_length]; show _ = ((upL l ks).length : Int); rw [upL_length]) (fun w2 hb2 => ((ov.but hb nv).but hb2 nv).is (by rw [downTo_length]; omega))
            rw [show (vec1 (upL l ks)).ws.length = l.length from upL_length l ks, show (vec1 (upL l ks)).n = (l.length : Int) from congrArg Int.ofNat (upL_length l ks)] at this
            exact this
          have fX : ∀ w', FW w' g (upL l ks) → FS w' (.slice (some ⟨g, 0, none⟩) l.length cap) (upL l ks) := fun w' h1 => by
            have := h1.fs (by rw [upL_length]; omega) cap; rwa [upL_length] at this
          have fB : ∀ w', FW w' g (backL l ks) → FS w' (.slice (some ⟨g, 0, none⟩) l.length cap) (backL l ks) := fun w' h1 => by
            have := h1.fs (by rw [backL_length]; omega) cap; rwa [backL_length] at this
          clear hV hu hv hT c8 hw1
          cases hfin : finL (upL l ks)
          · go_wp2_with (first | (go_at_call 85; ((with_reducible refine (hS1).mono ?_); rintro e w1 ⟨rfl, B1, F1⟩)) | (go_at_call 25; ((with_reducible refine (finite_any _ (upL l ks) _ (fX _ F1)).mono ?_); rintro e w2 ⟨rfl, rfl⟩)) | (go_at_call 85; ((with_reducible refine (hS2 _ B1 F1).mono ?_); rintro e w1 ⟨rfl, hb2, F2⟩; (have B2 := B1.trans hb2 (fun _ hb => .inl hb)))) | (go_at_call 24; ((with_reducible refine (awake06 _).mono ?_); rintro e w1 ⟨rfl, hw3⟩; (have B2 := B2.grew hw3))))
            go_ret
            exact ⟨rfl, B2.grew0 gwV hgw⟩
          · have hEq := Hlaw.out hfin
            rw [hEq] at hS2 fB
            have da : decide (l = l) = true := by simp
            go_wp2_with (first | (go_at_call 85; ((with_reducible refine (hS1).mono ?_); rintro e w1 ⟨rfl, B1, F1⟩)) | (go_at_call 25; ((with_reducible refine (finite_any _ (upL l ks) _ (fX _ F1)).mono ?_); rintro e w2 ⟨rfl, rfl⟩)) | (go_at_call 85; ((with_reducible refine (hS2 _ B1 F1).mono ?_); rintro e w1 ⟨rfl, hb2, F2⟩; (have B2 := B1.trans hb2 (fun _ hb => .inl hb)))) | (go_at_call 47; ((with_reducible refine (all_any _ _ l l _ (fB _ F2) (hDu _ B2)).mono ?_); rintro e w3 ⟨rfl, hw3⟩; have B2 := B2.grew hw3)) | (go_at_call 24; ((with_reducible refine (awake06 _).mono ?_); rintro e w1 ⟨rfl, hw3⟩; (have B2 := B2.grew hw3))))
            go_ret
            exact ⟨rfl, B2.grew0 gwV hgw⟩
end Go.Proofs.Ytcmggfpcbijcjaa
