/-
  Texts laid one behind the other (a claim has at most 60 files): LawTrb2, LawTrb, Head.
-/
import Derived.Test.YtcmggfpcbijcjaaRows
import Derived.ProofKit
import Derived.Test.YtcmggfpcbijcjaaQTrsvBackward1
import Derived.Test.YtcmggfpcbijcjaaQTrsvBackward2
import Derived.Test.YtcmggfpcbijcjaaQTrsvBackward3
import Derived.Test.YtcmggfpcbijcjaaQTrsvBackward4
import Derived.Test.YtcmggfpcbijcjaaQTrsvBackward5
import Derived.Test.YtcmggfpcbijcjaaQTrsvBackward6
import Derived.Test.YtcmggfpcbijcjaaQTrsvBackward7
import Derived.Test.YtcmggfpcbijcjaaQTrsvBackward8
import Derived.Test.YtcmggfpcbijcjaaQTrsvBackward9
import Derived.Test.YtcmggfpcbijcjaaQTrsvBackward10
import Derived.Test.YtcmggfpcbijcjaaQTrsvBackward11
section
/-
  The walk of the law TrsvBackward (layer 9): where all is well.
-/
set_option linter.unusedSimpArgs false
set_option linter.unusedVariables false
open Go Go.RowKit Sedge
namespace Go.Proofs.Ytcmggfpcbijcjaa
theorem trbFS_lt {w : World} {v : Value} {ws : List Nat} (h : FS w v ws) (i : Nat) : ws.getD i 0 < 2 ^ 64 := by
  by_cases hi : i < ws.length
  · obtain ⟨_, a, cap, rfl, _, hc⟩ := h
    obtain ⟨blk, o, b, _, _, hf⟩ := hc i hi
    exact hf.lt
  · rw [List.getD_eq_getElem?_getD, List.getElem?_eq_none (by omega)]; decide
theorem dv_lt {w : World} {v : Value} {q : Rat} {lo hi : Int} (h : DV w v q lo hi) {k : Nat} (h1 : dBlock v = some k) (h2 : dLen v ≠ 0) : k < w.heap.size := by
  obtain ⟨ng, L, E, l, rfl, hN, _⟩ := h
  obtain ⟨a, cap, rfl⟩ := hN.shape
  have hl : 0 < l.length := Nat.pos_of_ne_zero h2
  obtain ⟨blk, so, e, hb, _⟩ := hN.at.2.2 hl
  subst e
  have e : blk = k := by simpa [dBlock, Value.ownBlock] using h1
  omega
theorem dv_nil (w : World) (lo hi : Int) : DV w (.agg #[.bool false, .slice none 0 0, .int .i64 0]) 0 lo hi :=
  ⟨false, _, 0, [], rfl, NS.nil w, (fun x hx => by cases hx), (dat_zero false _).symm, fun _ => rfl, fun _ => ⟨rfl, rfl⟩, fun h => absurd rfl h⟩
theorem fin_0 : fin 0 = true := by decide +kernel
theorem cpl_fin {T0 L : List Nat} {w : World} {v : Value} (hL : FS w v L) (h0 : ∀ q, T0.getD q 0 = 0) (hf : finL L = true) (q : Nat) : fin ((cpl T0 L).getD q 0) = true := by
  by_cases hq : q < T0.length
  · rw [cpl_getD _ _ hq]
    split
    · rename_i h1
      have h2 : finB (L.getD q 0) = true := by
        unfold finL at hf
        rw [List.all_eq_true] at hf
        refine hf _ ?_
        rw [List.getD_eq_getElem?_getD, List.getElem?_eq_getElem h1]; exact List.getElem_mem _
      rw [fin_kind (trbFS_lt hL q)]; exact h2
    · rw [h0]; exact fin_0
  · rw [List.getD_eq_getElem?_getD, List.getElem?_eq_none (by rw [cpl_length]; omega)]; exact fin_0
set_option maxRecDepth 100000 in
set_option maxHeartbeats 8000000 in
theorem trb_main (aL aY : Option Addr) (cL cY lL n k : Nat) (L Y : List Nat) (u : Nat) (hu : u < 256) (en : (1 + (u : Int) % 4) = (k : Int)) (w : World) (hL : FS w (.slice aL lL cL) L) (hY : FS w (.slice aY n cY) Y)
    (c1 : ¬ n < 1) (c2 : ¬ 10 < n) (c5 : ¬ 200 < lL) (h1 : finL L = true) (h3 : finL Y = true) :
    Calls Try.prog 11 #[.int .u8 u, .slice aL lL cL, .slice aY n cY] w (fun e w' => e = .returned (.bool true) ∧ ∃ o n, w' = ext w o n) := by
  obtain ⟨blY, oy, rfl, kby, hYc⟩ := hY.at.2 (by have := hY.at.1; omega)
  have eL := hL.at.1
  have eY := hY.at.1
  have fL : ∀ w', Grew w w' → Calls Try.prog 25 #[.slice aL lL cL] w' (fun e w2 => e = .returned (.bool true) ∧ w' = w2) := fun w' g => by have := finite_any _ L w' (hL.grew g); rw [h1] at this; exact this
  have fY : ∀ w', Grew w w' → Calls Try.prog 25 #[.slice (some ⟨blY, oy, none⟩) n cY] w' (fun e w2 => e = .returned (.bool true) ∧ w' = w2) := fun w' g => by have := finite_any _ Y w' (hY.grew g); rw [h3] at this; exact this
  have d1 : decide ((n : Int) < 1) = false := by simp; omega
  have d2 : decide ((10 : Int) < n) = false := by simp; omega
  have d5 : decide ((200 : Int) < lL) = false := by simp; omega
  have hk14 : 1 ≤ k ∧ k ≤ 4 := by omega
  have nn1 : 1 ≤ n := by omega
  have n10 : n ≤ 10 := by omega
  have HL := hid hL
  have HY := hid hY
  have EY := hid eY
  have Ln := hid h1
  have hcp : ∀ w', Grew w w' → Calls Try.prog 70 #[.slice (some ⟨blY, oy, none⟩) n cY] w' (fun e w2 => ∃ v, e = .returned v ∧ WS w2 w'.heap.size v Y ∧ ∃ o n, w2 = ext w' o n) := fun w' g => copy1_any _ Y w' (HY.out.grew g) (by omega)
  have hnw : ∀ w', Calls Try.prog 68 #[.int .i64 n, .int .i64 n] w' (fun e w2 => ∃ k, e = .returned (.agg #[.int .i64 n, .int .i64 n, .slice (some ⟨k, 0, none⟩) (n * n) (n * n)]) ∧ w'.heap.size ≤ k ∧ FW w2 k (List.replicate (n * n) 0) ∧ ∃ o n, w2 = ext w' o n) := fun w' => rnewc_any n n w' (by omega) (by omega)
  obtain ⟨T0, hT0⟩ : ∃ T0, T0 = List.replicate (n * n) 0 := ⟨_, rfl⟩
  rw [← hT0] at hnw
  have lT0 : T0.length = n * n := by rw [hT0, List.length_replicate]
  have zT0 : ∀ q, T0.getD q 0 = 0 := fun q => by
    rw [hT0, List.getD_eq_getElem?_getD, List.getElem?_replicate]; split <;> rfl
  obtain ⟨TT, hTT⟩ : ∃ TT, TT = cpl T0 L := ⟨_, rfl⟩
  have lTT : TT.length = n * n := by rw [hTT, cpl_length, lT0]
  have fTT : ∀ q, fin (TT.getD q 0) = true := fun q => by rw [hTT]; exact cpl_fin hL zT0 h1 q
  obtain ⟨DD, hDD⟩ : ∃ DD, DD = denseL n n TT := ⟨_, rfl⟩
  have lDD : DD.length = n * n := by rw [hDD, denseL_length]
  have hm12 : n * n ≤ 10 * 10 := Nat.mul_le_mul (by omega) (by omega)
  have hde : ∀ w' g, FW w' g TT → Calls Try.prog 69 #[.int .i64 n, .int .i64 n, .slice (some ⟨g, 0, none⟩) (n * n) (n * n)] w' (fun e w2 => ∃ k c, e = .returned (.agg #[.slice (some ⟨k, 0, none⟩) (n * n) c, .int .i64 0, .int .i64 n, .int .i64 n, .int .i64 n]) ∧ w'.heap.size ≤ k ∧ FW w2 k DD ∧ ∃ o n, w2 = ext w' o n) := fun w' g hg => by
    have h := hg.fs (by omega) (n * n)
    rw [lTT] at h
    have h2 := dense_any n n (some ⟨g, 0, none⟩) TT w' (by rw [lTT]; exact h) (by omega) (by omega) (by omega) (by omega) lTT
    rw [lTT] at h2
    refine h2.mono fun e w2 hh => ?_
    obtain ⟨v, rfl, ⟨k, c, rfl, q1, q2, _⟩, q3⟩ := hh
    rw [denseL_length]
    exact ⟨k, c, rfl, q1, by rw [hDD]; exact q2, q3⟩
  have HYc := hid hYc
  clear hL hY eL eY h1 h3 c1 c2 c5 hYc
  go_enter Try.func11, Try.ntmps11
  go_upto_region 6 with (first | (go_at_call 78; ((with_reducible refine (awake09 _).mono ?_); rintro e w1 ⟨rfl, o1, n1, rfl⟩)) | (go_at_call 25; ((with_reducible refine (fL _ (by (show Grew _ _; (try simp only [← Array.append_assoc]); repeat (first | (with_reducible exact Grew.same_o) | (with_reducible exact Grew.refl _) | (with_reducible assumption) | (with_reducible refine Grew.alloc ?_ _) | (with_reducible refine Grew.app_r ?_) | ((with_reducible refine Grew.setCell ?_ ?_ _); rotate_left; (focus (dsimp only; first | omega | (simp only [size_ext, World.size_alloc, Array.size_append]; omega)))) | (with_reducible refine Grew.ext ?_ _ _) | (with_reducible refine Grew.drewN ?_ _) | (with_reducible refine Grew.drew ?_))))).mono ?_); rintro e w1 ⟨rfl, rfl⟩)) | (go_at_call 25; ((with_reducible refine (fY _ (by (show Grew _ _; (try simp only [← Array.append_assoc]); repeat (first | (with_reducible exact Grew.same_o) | (with_reducible exact Grew.refl _) | (with_reducible assumption) | (with_reducible refine Grew.alloc ?_ _) | (with_reducible refine Grew.app_r ?_) | ((with_reducible refine Grew.setCell ?_ ?_ _); rotate_left; (focus (dsimp only; first | omega | (simp only [size_ext, World.size_alloc, Array.size_append]; omega)))) | (with_reducible refine Grew.ext ?_ _ _) | (with_reducible refine Grew.drewN ?_ _) | (with_reducible refine Grew.drew ?_))))).mono ?_); rintro e w1 ⟨rfl, rfl⟩)))
  clear fL fY d1 d2 d5
  go_upto_region 7 with (first | (go_at_call 68; ((with_reducible refine (hnw _).mono ?_); rintro e w1 ⟨g, rfl, hg, hF, o2, n2, rfl⟩)))
  refine name_any (fun V hV => ?_)
  obtain ⟨kT, hkT⟩ : ∃ kT, kT = w.heap.size + (o1.size + o2.size) := ⟨_, rfl⟩
  have gV : Grew w V := by rw [← hV]; (show Grew _ _; (try simp only [← Array.append_assoc]); repeat (first | (with_reducible exact Grew.same_o) | (with_reducible exact Grew.refl _) | (with_reducible assumption) | (with_reducible refine Grew.alloc ?_ _) | (with_reducible refine Grew.app_r ?_) | ((with_reducible refine Grew.setCell ?_ ?_ _); rotate_left; (focus (dsimp only; first | omega | (simp only [size_ext, World.size_alloc, Array.size_append]; omega)))) | (with_reducible refine Grew.ext ?_ _ _) | (with_reducible refine Grew.drewN ?_ _) | (with_reducible refine Grew.drew ?_)))
  have zg : w.heap.size ≤ g := by simp only [size_ext] at hg; omega
  have ng : g ≠ kT := by have := hF.lt; simp only [size_ext] at this; omega
  have BT : Box V kT #[.int .i64 n, .int .i64 n, .slice (some ⟨g, 0, none⟩) (n * n) (n * n)] := by rw [← hV]; exact Box.new' (by rw [hkT]; simp only [size_ext, Array.size_append])
  have zkT : w.heap.size ≤ kT := by omega
  have hFV : FW V g T0 := by rw [← hV]; simp only [ext_ext] at hF; exact hF.alloc _
  have hLV := HL.out.grew gV
  have tT := BT.cell
  have kkT := BT.lt
  simp only [← hkT]
  clear hV hkT hF hg
  go_upto_region 8 with (first | ((refine copyF_K' rfl (.tmp 55) (.tmp 56) 24 24 rfl 22 (by kernel_rfl) (by kernel_rfl) g (n * n) (n * n) aL lL cL T0 L rfl rfl lT0 hFV hLV ?_); intro w7 z7 hw7))
  rw [← hTT] at hw7
  have g7 : Grew w w7 := hw7.grew gV zg
  have hT7 : FW w7 g TT := hw7.fw hFV
  have BT7 : Box w7 kT #[.int .i64 n, .int .i64 n, .slice (some ⟨g, 0, none⟩) (n * n) (n * n)] := by
    obtain ⟨cs, o, m, hw, _⟩ := hw7
    rw [hw]; exact (BT.upd_ne (fun e => ng e.symm) cs).grew ⟨_, _, rfl⟩
  have tT := BT7.cell
  have kkT := BT7.lt
  have hd7 := fun w' gg => hde w' g (hT7.grew gg)
  have zz7 := g7.below.size
  have lgT := hT7.lt
  have hltY : ∀ j, Y.getD j 0 < 2 ^ 64 := fun j => trbFS_lt HY.out j
  clear hw7 hFV hLV BT gV hde
  have hsv : ∀ gm cm gz cz w', FW w' gm DD → FW w' gz Y → gz ≠ gm → Calls Try.prog 79 #[.int .i64 k, .agg #[.slice (some ⟨gm, 0, none⟩) (n * n) cm, .int .i64 0, .int .i64 n, .int .i64 n, .int .i64 n], .agg #[.slice (some ⟨gz, 0, none⟩) Y.length cz, .int .i64 0, .int .i64 n, .int .i64 1]] w'
      (fun e w2 => ∃ E : Int, e = .returned (.int .i64 E) ∧ (E = 0 ∨ E = 4) ∧ But w' [gz] w2 ∧ (E = 0 → ∃ (M : Nat → Nat → Nat) (Z : List Nat), FW w2 gz Z ∧ Z.length = n ∧ (∀ i j, i < n → j < n → TT.getD (i * n + j) 0 = M i j) ∧ (finL Z = true → ∀ i, i < n → (exS (-(val (Y.getD i 0))) (trC k M (fun j => Z.getD j 0) i) n).abs ≤ (exB 0 (trC k M (fun j => Z.getD j 0) i) n * p2 (-51) + (1 + (val (partV k M i i)).abs) * p2 (-1060)) * ((n + 1 : Nat) : Rat)))) := fun gm cm gz cz w' q1 q2 q3 => by
    have h := sys_cl n k TT Y lTT n10 nn1 hk14 gm cm gz cz w' (by rw [← hDD]; exact q1) q2 EY.out.symm q3 fTT hltY
    rw [← EY.out] at h ⊢
    exact h
  go_upto_region 9 with (first | (go_at_call 70; ((with_reducible refine (hcp _ (Grew.trans g7 (by (show Grew _ _; (try simp only [← Array.append_assoc]); repeat (first | (with_reducible exact Grew.same_o) | (with_reducible exact Grew.refl _) | (with_reducible assumption) | (with_reducible refine Grew.alloc ?_ _) | (with_reducible refine Grew.app_r ?_) | ((with_reducible refine Grew.setCell ?_ ?_ _); rotate_left; (focus (dsimp only; first | omega | (simp only [size_ext, World.size_alloc, Array.size_append]; omega)))) | (with_reducible refine Grew.ext ?_ _ _) | (with_reducible refine Grew.drewN ?_ _) | (with_reducible refine Grew.drew ?_)))))).mono ?_); rintro e w1 ⟨v, rfl, ⟨gz, cz, rfl, hgz, hZ, hzl⟩, o4, n4, rfl⟩)))
  have lz := hZ.lt
  simp only [size_ext] at lz
  go_upto_region 10 with (first | (go_at_call 69; ((with_reducible refine (hd7 _ (by (show Grew _ _; (try simp only [← Array.append_assoc]); repeat (first | (with_reducible exact Grew.same_o) | (with_reducible exact Grew.refl _) | (with_reducible assumption) | (with_reducible refine Grew.alloc ?_ _) | (with_reducible refine Grew.app_r ?_) | ((with_reducible refine Grew.setCell ?_ ?_ _); rotate_left; (focus (dsimp only; first | omega | (simp only [size_ext, World.size_alloc, Array.size_append]; omega)))) | (with_reducible refine Grew.ext ?_ _ _) | (with_reducible refine Grew.drewN ?_ _) | (with_reducible refine Grew.drew ?_))))).mono ?_); rintro e w1 ⟨gm, cm, rfl, hgm, hM, o3, n3, rfl⟩; have lzm : gz ≠ gm := by simp only [size_ext] at hgm; omega)) | (go_at_call 79; ((with_reducible refine (hsv gm cm gz cz _ ?_ ?_ lzm).mono ?_); (focus (first | exact hM | (simpa only [ext_ext] using hM))); (focus (exact hZ.grew (by first | (show Grew _ _; (try simp only [← Array.append_assoc]); repeat (first | (with_reducible exact Grew.same_o) | (with_reducible exact Grew.refl _) | (with_reducible assumption) | (with_reducible refine Grew.alloc ?_ _) | (with_reducible refine Grew.app_r ?_) | ((with_reducible refine Grew.setCell ?_ ?_ _); rotate_left; (focus (dsimp only; first | omega | (simp only [size_ext, World.size_alloc, Array.size_append]; omega)))) | (with_reducible refine Grew.ext ?_ _ _) | (with_reducible refine Grew.drewN ?_ _) | (with_reducible refine Grew.drew ?_))) | (show Grew _ _; repeat (first | (with_reducible exact Grew.refl _) | (with_reducible assumption) | (with_reducible exact Grew.same_o) | (with_reducible exact Grew.app_o) | (with_reducible refine Grew.ext ?_ _ _) | (with_reducible refine Grew.alloc ?_ _) | ((with_reducible refine Grew.setCell ?_ ?_ _); rotate_left; (focus (dsimp only; first | omega | (simp only [size_ext, World.size_alloc, Array.size_append]; omega)))) | (with_reducible refine Grew.drewN ?_ _) | (with_reducible refine Grew.drew ?_)))))); rintro e w10 ⟨E, rfl, hE, hB, hx⟩)))
  have gV : Grew w (ext w7 (o4 ++ o3) n3) := Grew.trans g7 ⟨_, _, rfl⟩
  have zgz : w7.heap.size ≤ gz := hgz
  have g1 : Grew w w10 := hB.grew0 gV (by intro k hk; simp at hk; omega)
  have BT1 : Box w10 kT #[.int .i64 n, .int .i64 n, .slice (some ⟨g, 0, none⟩) (n * n) (n * n)] := by
    have hb := BT7.grew (⟨o4 ++ o3, n3, rfl⟩ : Grew w7 (ext w7 (o4 ++ o3) n3))
    have kBT := hb.lt
    obtain ⟨e, he⟩ := hb
    exact ⟨e, (hB.block _ kBT (by simp; omega)).trans he⟩
  have hT1 : FW w10 g TT := hB.fw (hT7.ext _ _) (by simp; omega)
  rcases hE with rfl | rfl
  · obtain ⟨M, Z, hZ1, lZ, hMM, hlaw⟩ := hx rfl
    have hZf := hZ1.fs (by omega) cz
    have hZc := hZf.at.2 (by omega)
    have kgz := hZ1.lt
    rw [lZ] at hZf
    rw [show Y.length = n from EY.out.symm]
    have HLW := hid hlaw
    have HMM := hid hMM
    clear hB hx hZ1 hlaw hMM hM hZ hgm gV zgz BT7 hT7 g7 hT0 hTT hDD lz zT0 hd7 hsv hcp hnw hltY lzm
    have fZ : ∀ b, finL Z = b → Calls Try.prog 25 #[.slice (some ⟨gz, 0, none⟩) n cz] w10 (fun e w2 => e = .returned (.bool b) ∧ w10 = w2) := fun b hb => by have := finite_any _ Z w10 hZf; rw [hb] at this; exact this
    cases hfz : finL Z
    · have fZ' := fZ _ hfz
      clear fZ
      go_wp2_with (first | (go_at_call 78; ((with_reducible refine (awake09 _).mono ?_); rintro e w9 ⟨rfl, o9, n9, rfl⟩)) | (go_at_call 25; ((with_reducible refine fZ'.mono ?_); rintro e w2 ⟨rfl, rfl⟩)))
      go_ret
      exact ⟨rfl, Grew.trans g1 (by (show Grew _ _; (try simp only [← Array.append_assoc]); repeat (first | (with_reducible exact Grew.same_o) | (with_reducible exact Grew.refl _) | (with_reducible assumption) | (with_reducible refine Grew.alloc ?_ _) | (with_reducible refine Grew.app_r ?_) | ((with_reducible refine Grew.setCell ?_ ?_ _); rotate_left; (focus (dsimp only; first | omega | (simp only [size_ext, World.size_alloc, Array.size_append]; omega)))) | (with_reducible refine Grew.ext ?_ _ _) | (with_reducible refine Grew.drewN ?_ _) | (with_reducible refine Grew.drew ?_))))⟩
    · have fZ' := fZ _ hfz
      have HLAW := hid (HLW.out hfz)
      clear fZ HLW hfz
      obtain ⟨kz0, kz1, ez, kz2, hZc⟩ := hZc
      cases ez
      have HZc := hid hZc
      have HTT := hid (hT1.fs (by omega) (n * n))
      clear hZc hT1 hZf
      have hAt : ∀ (i j : Nat) w', i < n → j < n → Grew w10 w' → Calls Try.prog 82 #[.int .i64 k, .agg #[.int .i64 n, .int .i64 n, .slice (some ⟨g, 0, none⟩) (n * n) (n * n)], .int .i64 i, .int .i64 j] w' (fun e w2 => ∃ b, e = .returned (.tuple #[.float .f64 b, .bool (partO k i j)]) ∧ IsF b (partV k M i j) ∧ ∃ o n, w2 = ext w' o n) := fun i j w' hi hj gg => by
        have h := HTT.out
        rw [lTT] at h
        exact part_any k n i j M _ TT w' (h.grew gg) hk14 (by omega) hi hj lTT HMM.out
      have hI1 : ∀ w', Calls Try.prog 33 #[.int .i64 1] w' (fun e w2 => ∃ v, e = .returned v ∧ DV w2 v ((1 : Nat) : Rat) 0 4 ∧ (∀ k, dBlock v = some k → w'.heap.size ≤ k) ∧ ∃ o n, w2 = ext w' o n) := fun w' => dint_any 1 w' (by decide)
      have hI2 : ∀ w', Calls Try.prog 33 #[.int .i64 ((n : Int) + 1)] w' (fun e w2 => ∃ v, e = .returned v ∧ DV w2 v ((n + 1 : Nat) : Rat) 0 4 ∧ (∀ k, dBlock v = some k → w'.heap.size ≤ k) ∧ ∃ o n, w2 = ext w' o n) := fun w' => dint_any (n + 1) w' (by omega)
      obtain ⟨T1, hT1⟩ : ∃ q : Rat, q = ((n + 1 : Nat) : Rat) := ⟨_, rfl⟩
      rw [← hT1] at hI2
      rw [← hT1] at HLAW
      clear hT1
      have BTc := BT1.cell
      have kBT := BT1.lt
      have HBT : ∀ w', Grew w10 w' → ∀ i, w'.cell? ⟨kT, i, none⟩ = (#[.int .i64 n, .int .i64 n, .slice (some ⟨g, 0, none⟩) (n * n) (n * n)] : Array Value)[i]? := fun w' gg i => (gg.cell kBT).trans (BTc i)
      have hYb : ∀ i, i < n → ∃ b, IsF b (Y.getD i 0) ∧ ∀ w', Grew w10 w' → w'.cell? ⟨blY, oy + i, none⟩ = some (.float .f64 b) := fun i hi => by
        obtain ⟨b, h1, h2⟩ := HYc.out i (by have := EY.out; omega)
        exact ⟨b, h2, fun w' gg => ((Grew.trans g1 gg).cell kby).trans h1⟩
      have hZb : ∀ i, i < n → ∃ b, IsF b (Z.getD i 0) ∧ ∀ w', Grew w10 w' → w'.cell? ⟨gz, i, none⟩ = some (.float .f64 b) := fun i hi => by
        obtain ⟨b, h1, h2⟩ := HZc.out i (by omega)
        rw [Nat.zero_add] at h1
        exact ⟨b, h2, fun w' gg => (gg.cell kgz).trans h1⟩
      have kby1 : blY < w10.heap.size := Nat.lt_of_lt_of_le kby g1.below.size
      clear BT1 BTc HZc HTT HYc HY HL HMM
      go_upto_region 14 with (first | (go_at_call 25; ((with_reducible refine fZ'.mono ?_); rintro e w2 ⟨rfl, rfl⟩)))
      clear fZ'
      go_wp2
      go_loopw [12] (fun c wx => ∃ (i : Nat), i ≤ n ∧ c = .int .i64 i ∧ Grew w10 wx) (fun c _ => n - (intOf c).toNat)
      case atStart => exact ⟨0, Nat.zero_le _, rfl, Grew.refl _⟩
      case round =>
        obtain ⟨i, hi, rfl, g2⟩ := hrel
        obtain ⟨U0, rfl⟩ : ∃ U0, U0 = wr := ⟨_, rfl⟩
        by_cases hlt : i < n
        · obtain ⟨by1, fy, hby⟩ := hYb i hlt
          have hbyU := hby _ g2
          have kbyU : blY < U0.heap.size := Nat.lt_of_lt_of_le kby1 g2.below.size
          go_upto_region 18 with (first | (go_at_call 27; ((with_reducible refine (of_any by1 _ _ fy).mono ?_); rintro e w1 ⟨v, rfl, ha1, hb1, o1, n1, rfl⟩; (obtain ⟨v1, v2, v3, v4, v5, rfl⟩ := ha1.shape))) | (go_at_call 81; ((with_reducible refine (dminus_any _ _ _ _ _ ha1).mono ?_); rintro e w1 ⟨v, rfl, ha2, hb2, o2, n2, rfl⟩; (obtain ⟨g13, a13, n13, c13, E13, rfl⟩ := ha2.shape); (try simp only [ext_ext] at ha2))) | (go_at_call 33; ((with_reducible refine (hI1 _).mono ?_); rintro e w1 ⟨v, rfl, ha3, hb3, o3, n3, rfl⟩; (obtain ⟨g15, a15, n15, c15, E15, rfl⟩ := ha3.shape); (try simp only [ext_ext] at ha3))))
          refine name_any (fun V hV => ?_)
          obtain ⟨p13, hp13⟩ : ∃ p, p = U0.heap.size + (o1.size + (o2.size + o3.size)) := ⟨_, rfl⟩
          obtain ⟨p14, hp14⟩ : ∃ p, p = p13 + 1 := ⟨_, rfl⟩
          obtain ⟨p15, hp15⟩ : ∃ p, p = p14 + 1 := ⟨_, rfl⟩
          have gV : Grew U0 V := by rw [← hV]; (show Grew _ _; (try simp only [← Array.append_assoc]); repeat (first | (with_reducible exact Grew.same_o) | (with_reducible exact Grew.refl _) | (with_reducible assumption) | (with_reducible refine Grew.alloc ?_ _) | (with_reducible refine Grew.app_r ?_) | ((with_reducible refine Grew.setCell ?_ ?_ _); rotate_left; (focus (dsimp only; first | omega | (simp only [size_ext, World.size_alloc, Array.size_append]; omega)))) | (with_reducible refine Grew.ext ?_ _ _) | (with_reducible refine Grew.drewN ?_ _) | (with_reducible refine Grew.drew ?_)))
          have sz : (ext U0 (o1 ++ (o2 ++ o3)) n3).heap.size = p13 := by rw [hp13]; simp only [size_ext, Array.size_append]
          have X13 : Box V p13 #[.bool g13, .slice a13 n13 c13, .int .i64 E13] := by rw [← hV]; exact (Box.new' sz.symm).grew (((Grew.refl _).alloc _).alloc _)
          have X14 : Box V p14 #[.bool false, .slice none 0 0, .int .i64 0] := by rw [← hV]; exact (Box.new' (by rw [hp14, ← sz]; simp only [World.size_alloc])).grew ((Grew.refl _).alloc _)
          have X15 : Box V p15 #[.bool g15, .slice a15 n15 c15, .int .i64 E15] := by rw [← hV]; exact Box.new' (by rw [hp15, hp14, ← sz]; simp only [World.size_alloc])
          have zp13 : U0.heap.size ≤ p13 := by omega
          have d13 : dNot (.agg #[.bool g13, .slice a13 n13 c13, .int .i64 E13]) [p13, p14, p15] := fun k h1 h2 h3 => by
            have := dv_lt ha2 h1 h2
            simp only [List.mem_cons, List.not_mem_nil, or_false, size_ext, Array.size_append] at h3 this
            omega
          have d15 : dNot (.agg #[.bool g15, .slice a15 n15 c15, .int .i64 E15]) [p13, p14, p15] := fun k h1 h2 h3 => by
            have := dv_lt ha3 h1 h2
            simp only [List.mem_cons, List.not_mem_nil, or_false, size_ext, Array.size_append] at h3 this
            omega
          have d14 : dNot (.agg #[.bool false, .slice none 0 0, .int .i64 0]) [p13, p14, p15] := fun k h1 h2 h3 => absurd rfl h2
          have W13 : DV V (.agg #[.bool g13, .slice a13 n13 c13, .int .i64 E13]) (-(val (Y.getD i 0))) (-150) 150 := (ha2.grew (by rw [← hV]; first | (show Grew _ _; (try simp only [← Array.append_assoc]); repeat (first | (with_reducible exact Grew.same_o) | (with_reducible exact Grew.refl _) | (with_reducible assumption) | (with_reducible refine Grew.alloc ?_ _) | (with_reducible refine Grew.app_r ?_) | ((with_reducible refine Grew.setCell ?_ ?_ _); rotate_left; (focus (dsimp only; first | omega | (simp only [size_ext, World.size_alloc, Array.size_append]; omega)))) | (with_reducible refine Grew.ext ?_ _ _) | (with_reducible refine Grew.drewN ?_ _) | (with_reducible refine Grew.drew ?_))) | (show Grew _ _; repeat (first | (with_reducible exact Grew.refl _) | (with_reducible assumption) | (with_reducible exact Grew.same_o) | (with_reducible exact Grew.app_o) | (with_reducible refine Grew.ext ?_ _ _) | (with_reducible refine Grew.alloc ?_ _) | ((with_reducible refine Grew.setCell ?_ ?_ _); rotate_left; (focus (dsimp only; first | omega | (simp only [size_ext, World.size_alloc, Array.size_append]; omega)))) | (with_reducible refine Grew.drewN ?_ _) | (with_reducible refine Grew.drew ?_))))).mono (by decide) (by decide)
          have W15 : DV V (.agg #[.bool g15, .slice a15 n15 c15, .int .i64 E15]) ((1 : Nat) : Rat) (-70) 80 := (ha3.grew (by rw [← hV]; first | (show Grew _ _; (try simp only [← Array.append_assoc]); repeat (first | (with_reducible exact Grew.same_o) | (with_reducible exact Grew.refl _) | (with_reducible assumption) | (with_reducible refine Grew.alloc ?_ _) | (with_reducible refine Grew.app_r ?_) | ((with_reducible refine Grew.setCell ?_ ?_ _); rotate_left; (focus (dsimp only; first | omega | (simp only [size_ext, World.size_alloc, Array.size_append]; omega)))) | (with_reducible refine Grew.ext ?_ _ _) | (with_reducible refine Grew.drewN ?_ _) | (with_reducible refine Grew.drew ?_))) | (show Grew _ _; repeat (first | (with_reducible exact Grew.refl _) | (with_reducible assumption) | (with_reducible exact Grew.same_o) | (with_reducible exact Grew.app_o) | (with_reducible refine Grew.ext ?_ _ _) | (with_reducible refine Grew.alloc ?_ _) | ((with_reducible refine Grew.setCell ?_ ?_ _); rotate_left; (focus (dsimp only; first | omega | (simp only [size_ext, World.size_alloc, Array.size_append]; omega)))) | (with_reducible refine Grew.drewN ?_ _) | (with_reducible refine Grew.drew ?_))))).mono (by decide) (by decide)
          have W14 := dv_nil V (-150) 150
          have l1314 : p13 ≠ p14 := by omega
          have l1315 : p13 ≠ p15 := by omega
          have l1415 : p14 ≠ p15 := by omega
          have l14 : U0.heap.size ≤ p14 := by omega
          have l15 : U0.heap.size ≤ p15 := by omega
          obtain ⟨S, hS⟩ : ∃ S, S = exS (-(val (Y.getD i 0))) (trC k M (fun j => Z.getD j 0) i) := ⟨_, rfl⟩
          obtain ⟨T, hT⟩ : ∃ T, T = exB 0 (trC k M (fun j => Z.getD j 0) i) := ⟨_, rfl⟩
          obtain ⟨C, hC⟩ : ∃ C, C = trC k M (fun j => Z.getD j 0) i := ⟨_, rfl⟩
          obtain ⟨G, hG⟩ : ∃ G : Nat → Rat, G = fun j => if j ≤ i then ((1 : Nat) : Rat) else ((1 : Nat) : Rat) + (val (partV k M i i)).abs := ⟨_, rfl⟩
          have hS0 : S 0 = -(val (Y.getD i 0)) := by rw [hS]; rfl
          have hT0 : T 0 = 0 := by rw [hT]; rfl
          have hS1 : ∀ j, S (j + 1) = S j + C j := fun j => by rw [hS, hC]; rfl
          have hT1 : ∀ j, T (j + 1) = T j + (C j).abs := fun j => by rw [hT, hC]; rfl
          have hG0 : G 0 = ((1 : Nat) : Rat) := by rw [hG]; simp
          have hG1 : ∀ j, j ≠ i → G (j + 1) = G j := fun j hj => by
            rw [hG]
            by_cases h : j ≤ i
            · simp only; rw [if_pos (by omega), if_pos h]
            · simp only; rw [if_neg (by omega), if_neg h]
          have hG2 : G (i + 1) = G i + (val (partV k M i i)).abs := by rw [hG]; simp only; rw [if_neg (by omega), if_pos (Nat.le_refl i)]
          have hGn : G n = 1 + (val (partV k M i i)).abs := by rw [hG]; simp only; rw [if_neg (by omega)]; rfl
          have hC1 : ∀ j, partO k i j = true → C j = val (partV k M i j) * val (Z.getD j 0) := fun j hj => by rw [hC]; unfold trC; rw [if_pos hj]
          have hC0 : ∀ j, partO k i j = false → C j = 0 := fun j hj => by rw [hC]; unfold trC; rw [hj]; rfl
          have hii : partO k i i = true := by unfold partO pI pJ; simp
          have hlawi := HLAW.out i hlt
          rw [← hS, ← hT, ← hGn] at hlawi
          rw [← hS0] at W13
          rw [← hT0] at W14
          rw [← hG0] at W15
          have HLi := hid hlawi
          have HS1 := hid hS1
          have HT1 := hid hT1
          have HG1 := hid hG1
          have HG2 := hid hG2
          have HC1 := hid hC1
          have HC0 := hid hC0
          simp only [← hp13]
          simp only [← hp14]
          simp only [← hp15]
          have gV' := gV
          have HP := hid (And.intro hp14 hp15)
          clear hV hp13 hp14 hp15 sz ha1 ha2 ha3 hb1 hb2 hb3 hS hT hC hG hS0 hT0 hS1 hT1 hG0 hG1 hG2 hGn hC1 hC0 hlawi hbyU kbyU gV
          go_wp2
          go_loopw [16] (fun c wx => ∃ (j : Nat) (na : Bool) (aa : Option Addr) (an ac : Nat) (aE : Int) (nb : Bool) (ba : Option Addr) (bn bc : Nat) (bE : Int) (nd : Bool) (da : Option Addr) (dn dc : Nat) (dE : Int), j ≤ n ∧ c = .int .i64 j ∧ Grew U0 wx ∧ Box wx p13 #[.bool na, .slice aa an ac, .int .i64 aE] ∧ Box wx p14 #[.bool nb, .slice ba bn bc, .int .i64 bE] ∧ Box wx p15 #[.bool nd, .slice da dn dc, .int .i64 dE] ∧ DV wx (.agg #[.bool na, .slice aa an ac, .int .i64 aE]) (S j) (-150) (150 + j) ∧ DV wx (.agg #[.bool nb, .slice ba bn bc, .int .i64 bE]) (T j) (-150) (150 + j) ∧ DV wx (.agg #[.bool nd, .slice da dn dc, .int .i64 dE]) (G j) (-70) (80 + j) ∧ dNot (.agg #[.bool na, .slice aa an ac, .int .i64 aE]) [p13, p14, p15] ∧ dNot (.agg #[.bool nb, .slice ba bn bc, .int .i64 bE]) [p13, p14, p15] ∧ dNot (.agg #[.bool nd, .slice da dn dc, .int .i64 dE]) [p13, p14, p15]) (fun c _ => n - (intOf c).toNat)
          case atStart => exact ⟨0, g13, a13, n13, c13, E13, false, none, 0, 0, 0, g15, a15, n15, c15, E15, Nat.zero_le _, rfl, gV', X13, X14, X15, W13.mono (by decide) (by decide), W14.mono (by decide) (by decide), W15.mono (by decide) (by decide), d13, d14, d15⟩
          case round =>
            clear X13 X14 X15 W13 W14 W15 d13 d14 d15 gV'
            obtain ⟨j, na, aa, an, ac, aE, nb, ba, bn, bc, bE, nd, da, dn, dc, dE, hj, rfl, gw, B13, B14, B15, hDa, hDb, hDd, qa, qb, qd⟩ := hrel
            have z13 := B13.lt
            have z14 := B14.lt
            have z15 := B15.lt
            have t13 := B13.cell
            have t14 := B14.cell
            have t15 := B15.cell
            have r13' := B13.frozen
            have r14' := B14.frozen
            have r15' := B15.frozen
            have gw1 : Grew w10 wr := Grew.trans g2 gw
            have zwr : U0.heap.size ≤ wr.heap.size := gw.below.size
            by_cases hjR : j < n
            · have tT := HBT _ gw1
              have kT' : kT < wr.heap.size := Nat.lt_of_lt_of_le kBT gw1.below.size
              go_upto_region 22 with (first | (go_at_call 82; ((with_reducible refine (hAt i j _ hlt hjR (Grew.trans gw1 (by (show Grew _ _; (try simp only [← Array.append_assoc]); repeat (first | (with_reducible exact Grew.same_o) | (with_reducible exact Grew.refl _) | (with_reducible assumption) | (with_reducible refine Grew.alloc ?_ _) | (with_reducible refine Grew.app_r ?_) | ((with_reducible refine Grew.setCell ?_ ?_ _); rotate_left; (focus (dsimp only; first | omega | (simp only [size_ext, World.size_alloc, Array.size_append]; omega)))) | (with_reducible refine Grew.ext ?_ _ _) | (with_reducible refine Grew.drewN ?_ _) | (with_reducible refine Grew.drew ?_)))))).mono ?_); rintro e w1 ⟨bv, rfl, hbv, ov, nv, rfl⟩)))
              refine name_any (fun V1 hV1 => ?_)
              have gV1 : Grew wr V1 := by rw [← hV1]; (show Grew _ _; (try simp only [← Array.append_assoc]); repeat (first | (with_reducible exact Grew.same_o) | (with_reducible exact Grew.refl _) | (with_reducible assumption) | (with_reducible refine Grew.alloc ?_ _) | (with_reducible refine Grew.app_r ?_) | ((with_reducible refine Grew.setCell ?_ ?_ _); rotate_left; (focus (dsimp only; first | omega | (simp only [size_ext, World.size_alloc, Array.size_append]; omega)))) | (with_reducible refine Grew.ext ?_ _ _) | (with_reducible refine Grew.drewN ?_ _) | (with_reducible refine Grew.drew ?_)))
              clear hV1
              cases hpo : partO k i j
              · have hc0 := HC0.out j hpo
                have hji : j ≠ i := fun e => by rw [e, hii] at hpo; cases hpo
                have eS : S (j + 1) = S j := by rw [HS1.out j, hc0, Rat.add_zero]
                have eT : T (j + 1) = T j := by rw [HT1.out j, hc0, show (0 : Rat).abs = 0 from rfl, Rat.add_zero]
                have eG := HG1.out j hji
                have ES := hid eS
                have ET := hid eT
                have EG := hid eG
                clear eS eT eG hc0
                go_wp2
                go_roundw
                case rel => exact ⟨j + 1, na, aa, an, ac, aE, nb, ba, bn, bc, bE, nd, da, dn, dc, dE, hjR, by go_num, Grew.trans gw gV1, B13.grew gV1, B14.grew gV1, B15.grew gV1, by rw [ES.out]; exact (hDa.grew gV1).mono (by omega) (by omega), by rw [ET.out]; exact (hDb.grew gV1).mono (by omega) (by omega), by rw [EG.out]; exact (hDd.grew gV1).mono (by omega) (by omega), qa, qb, qd⟩
                case measure => simp [intOf]; omega
              · have hc1 := HC1.out j hpo
                have eS : S (j + 1) = S j + val (partV k M i j) * val (Z.getD j 0) := by rw [HS1.out j, hc1]
                have eT : T (j + 1) = T j + (val (partV k M i j) * val (Z.getD j 0)).abs := by rw [HT1.out j, hc1]
                have ES := hid eS
                have ET := hid eT
                clear eS eT hc1 hpo
                obtain ⟨bz, hfz, hbz⟩ := hZb j hjR
                have g3 : Grew w10 V1 := Grew.trans gw1 gV1
                have hbzw := hbz _ g3
                have kz : gz < V1.heap.size := Nat.lt_of_lt_of_le kgz g3.below.size
                have zV1 := gV1.below.size
                have eG : j = i → G (j + 1) = G j + (val (partV k M i j)).abs := fun e => by rw [e]; exact HG2.out
                obtain ⟨QP, hQP⟩ : ∃ q, q = val (partV k M i j) := ⟨_, rfl⟩
                obtain ⟨QZ, hQZ⟩ : ∃ q, q = val (Z.getD j 0) := ⟨_, rfl⟩
                have hofp : ∀ w', Calls Try.prog 27 #[.float .f64 bv] w' (fun e w2 => ∃ v, e = .returned v ∧ DV w2 v QP (-70) 70 ∧ (∀ k, dBlock v = some k → w'.heap.size ≤ k) ∧ ∃ o n, w2 = ext w' o n) := fun w' => by rw [hQP]; exact of_any bv _ w' hbv
                have hofz : ∀ w', Calls Try.prog 27 #[.float .f64 bz] w' (fun e w2 => ∃ v, e = .returned v ∧ DV w2 v QZ (-70) 70 ∧ (∀ k, dBlock v = some k → w'.heap.size ≤ k) ∧ ∃ o n, w2 = ext w' o n) := fun w' => by rw [hQZ]; exact of_any bz _ w' hfz
                have eS := ES.out
                have eT := ET.out
                rw [← hQP, ← hQZ] at eS eT
                rw [← hQP] at eG
                have ES := hid eS
                have ET := hid eT
                have EG := hid eG
                clear eS eT eG hQP hQZ
                go_upto_region 23 with fail
                refine wp_region_JD [0, 19] (V1) [.val (fun v => v = .float .f64 bv), .dv (QP) (-70) (70), .val (fun v => v = .slice (some ⟨gz, 0, none⟩) n cz), .val (fun v => v = .int .i64 j), .val (fun v => v = .pointer (some ⟨gz, j, none⟩)), .val (fun v => v = .float .f64 bz), .dv (QZ) (-70) (70), .dv (QP * QZ) (-140) (141), .box, .put 19 (QP * QZ) (-140) (141)] [109, 110, 111, 112, 113, 114, 115, 116, 19] (by kernel_rfl) (by kernel_rfl) (by (show Grew _ _; (try simp only [← Array.append_assoc]); repeat (first | (with_reducible exact Grew.same_o) | (with_reducible exact Grew.refl _) | (with_reducible assumption) | (with_reducible refine Grew.alloc ?_ _) | (with_reducible refine Grew.app_r ?_) | ((with_reducible refine Grew.setCell ?_ ?_ _); rotate_left; (focus (dsimp only; first | omega | (simp only [size_ext, World.size_alloc, Array.size_append]; omega)))) | (with_reducible refine Grew.ext ?_ _ _) | (with_reducible refine Grew.drewN ?_ _) | (with_reducible refine Grew.drew ?_)))) ?_ (fun ρ own V gV h0F hF => ?_)
                · refine stepsD_cons (j := 1) rfl ?_ ?_
                  · intro L ρ own u hS K hK
                    obtain ⟨o', n', hu⟩ := hS.grew
                    subst hu
                    simp only [mkA_cons, mkA_nil, List.setIfInBounds_toArray, List.set_cons_zero, List.set_cons_succ]
                    go_wp2_with fail
                    exact hS.val rfl rfl (by kernel_rfl) (by (show Grew _ _; (try simp only [← Array.append_assoc]); repeat (first | (with_reducible exact Grew.same_o) | (with_reducible exact Grew.refl _) | (with_reducible assumption) | (with_reducible refine Grew.alloc ?_ _) | (with_reducible refine Grew.app_r ?_) | ((with_reducible refine Grew.setCell ?_ ?_ _); rotate_left; (focus (dsimp only; first | omega | (simp only [size_ext, World.size_alloc, Array.size_append]; omega)))) | (with_reducible refine Grew.ext ?_ _ _) | (with_reducible refine Grew.drewN ?_ _) | (with_reducible refine Grew.drew ?_)))) (by first | rfl | assumption) (by simp only [mkA_cons, mkA_nil, List.setIfInBounds_toArray, List.set_cons_zero, List.set_cons_succ, *] )
                  refine stepsD_cons (j := 2) rfl ?_ ?_
                  · intro L ρ own u hS K hK
                    have e0 := hS.fact 0 rfl rfl (by kernel_rfl)
                    change ρ 109 = _ at e0
                    obtain ⟨o', n', hu⟩ := hS.grew
                    subst hu
                    simp only [mkA_cons, mkA_nil, List.setIfInBounds_toArray, List.set_cons_zero, List.set_cons_succ]
                    go_wp2_with (first | (go_at_call 27; ((with_reducible refine (hofp _).mono ?_); rintro e w1 ⟨v, rfl, hv, hk, o1, n1, rfl⟩; (obtain ⟨v1, v2, v3, v4, v5, rfl⟩ := hv.shape))))
                    try simp only [drew_ext, drewN_ext, ext_ext] at hv
                    exact hS.dv rfl rfl (by kernel_rfl) (by (show Grew _ _; (try simp only [← Array.append_assoc]); repeat (first | (with_reducible exact Grew.same_o) | (with_reducible exact Grew.refl _) | (with_reducible assumption) | (with_reducible refine Grew.alloc ?_ _) | (with_reducible refine Grew.app_r ?_) | ((with_reducible refine Grew.setCell ?_ ?_ _); rotate_left; (focus (dsimp only; first | omega | (simp only [size_ext, World.size_alloc, Array.size_append]; omega)))) | (with_reducible refine Grew.ext ?_ _ _) | (with_reducible refine Grew.drewN ?_ _) | (with_reducible refine Grew.drew ?_)))) hv (fun k h1 h2 => .inl (by have := hk k h1; simp only [size_ext] at *; omega)) (by simp only [mkA_cons, mkA_nil, List.setIfInBounds_toArray, List.set_cons_zero, List.set_cons_succ, *] )
                  refine stepsD_cons (j := 3) rfl ?_ ?_
                  · intro L ρ own u hS K hK
                    obtain ⟨o', n', hu⟩ := hS.grew
                    subst hu
                    simp only [mkA_cons, mkA_nil, List.setIfInBounds_toArray, List.set_cons_zero, List.set_cons_succ]
                    go_wp2_with fail
                    exact hS.val rfl rfl (by kernel_rfl) (by (show Grew _ _; (try simp only [← Array.append_assoc]); repeat (first | (with_reducible exact Grew.same_o) | (with_reducible exact Grew.refl _) | (with_reducible assumption) | (with_reducible refine Grew.alloc ?_ _) | (with_reducible refine Grew.app_r ?_) | ((with_reducible refine Grew.setCell ?_ ?_ _); rotate_left; (focus (dsimp only; first | omega | (simp only [size_ext, World.size_alloc, Array.size_append]; omega)))) | (with_reducible refine Grew.ext ?_ _ _) | (with_reducible refine Grew.drewN ?_ _) | (with_reducible refine Grew.drew ?_)))) (by first | rfl | assumption) (by simp only [mkA_cons, mkA_nil, List.setIfInBounds_toArray, List.set_cons_zero, List.set_cons_succ, *] )
                  refine stepsD_cons (j := 4) rfl ?_ ?_
                  · intro L ρ own u hS K hK
                    obtain ⟨o', n', hu⟩ := hS.grew
                    subst hu
                    simp only [mkA_cons, mkA_nil, List.setIfInBounds_toArray, List.set_cons_zero, List.set_cons_succ]
                    go_wp2_with fail
                    exact hS.val rfl rfl (by kernel_rfl) (by (show Grew _ _; (try simp only [← Array.append_assoc]); repeat (first | (with_reducible exact Grew.same_o) | (with_reducible exact Grew.refl _) | (with_reducible assumption) | (with_reducible refine Grew.alloc ?_ _) | (with_reducible refine Grew.app_r ?_) | ((with_reducible refine Grew.setCell ?_ ?_ _); rotate_left; (focus (dsimp only; first | omega | (simp only [size_ext, World.size_alloc, Array.size_append]; omega)))) | (with_reducible refine Grew.ext ?_ _ _) | (with_reducible refine Grew.drewN ?_ _) | (with_reducible refine Grew.drew ?_)))) (by first | rfl | assumption) (by simp only [mkA_cons, mkA_nil, List.setIfInBounds_toArray, List.set_cons_zero, List.set_cons_succ, *] )
                  refine stepsD_cons (j := 5) rfl ?_ ?_
                  · intro L ρ own u hS K hK
                    have e2 := hS.fact 2 rfl rfl (by kernel_rfl)
                    change ρ 111 = _ at e2
                    have e3 := hS.fact 3 rfl rfl (by kernel_rfl)
                    change ρ 112 = _ at e3
                    obtain ⟨o', n', hu⟩ := hS.grew
                    subst hu
                    simp only [mkA_cons, mkA_nil, List.setIfInBounds_toArray, List.set_cons_zero, List.set_cons_succ]
                    go_wp2_with fail
                    exact hS.val rfl rfl (by kernel_rfl) (by (show Grew _ _; (try simp only [← Array.append_assoc]); repeat (first | (with_reducible exact Grew.same_o) | (with_reducible exact Grew.refl _) | (with_reducible assumption) | (with_reducible refine Grew.alloc ?_ _) | (with_reducible refine Grew.app_r ?_) | ((with_reducible refine Grew.setCell ?_ ?_ _); rotate_left; (focus (dsimp only; first | omega | (simp only [size_ext, World.size_alloc, Array.size_append]; omega)))) | (with_reducible refine Grew.ext ?_ _ _) | (with_reducible refine Grew.drewN ?_ _) | (with_reducible refine Grew.drew ?_)))) (by first | rfl | assumption) (by simp only [mkA_cons, mkA_nil, List.setIfInBounds_toArray, List.set_cons_zero, List.set_cons_succ, *] )
                  refine stepsD_cons (j := 6) rfl ?_ ?_
                  · intro L ρ own u hS K hK
                    have e4 := hS.fact 4 rfl rfl (by kernel_rfl)
                    change ρ 113 = _ at e4
                    obtain ⟨o', n', hu⟩ := hS.grew
                    subst hu
                    simp only [mkA_cons, mkA_nil, List.setIfInBounds_toArray, List.set_cons_zero, List.set_cons_succ]
                    go_wp2_with fail
                    exact hS.val rfl rfl (by kernel_rfl) (by (show Grew _ _; (try simp only [← Array.append_assoc]); repeat (first | (with_reducible exact Grew.same_o) | (with_reducible exact Grew.refl _) | (with_reducible assumption) | (with_reducible refine Grew.alloc ?_ _) | (with_reducible refine Grew.app_r ?_) | ((with_reducible refine Grew.setCell ?_ ?_ _); rotate_left; (focus (dsimp only; first | omega | (simp only [size_ext, World.size_alloc, Array.size_append]; omega)))) | (with_reducible refine Grew.ext ?_ _ _) | (with_reducible refine Grew.drewN ?_ _) | (with_reducible refine Grew.drew ?_)))) (by first | rfl | assumption) (by simp only [mkA_cons, mkA_nil, List.setIfInBounds_toArray, List.set_cons_zero, List.set_cons_succ, *] )
                  refine stepsD_cons (j := 7) rfl ?_ ?_
                  · intro L ρ own u hS K hK
                    obtain ⟨g1, a1, n1, c1, E1, e1, hv1, hs1⟩ := dvOut (hS.fact 1 rfl rfl (by kernel_rfl))
                    change ρ 110 = _ at e1
                    have e5 := hS.fact 5 rfl rfl (by kernel_rfl)
                    change ρ 114 = _ at e5
                    obtain ⟨o', n', hu⟩ := hS.grew
                    subst hu
                    simp only [mkA_cons, mkA_nil, List.setIfInBounds_toArray, List.set_cons_zero, List.set_cons_succ]
                    go_wp2_with (first | (go_at_call 27; ((with_reducible refine (hofz _).mono ?_); rintro e w1 ⟨v, rfl, hv, hk, o1, n1, rfl⟩; (obtain ⟨v1, v2, v3, v4, v5, rfl⟩ := hv.shape))))
                    try simp only [drew_ext, drewN_ext, ext_ext] at hv
                    exact hS.dv rfl rfl (by kernel_rfl) (by (show Grew _ _; (try simp only [← Array.append_assoc]); repeat (first | (with_reducible exact Grew.same_o) | (with_reducible exact Grew.refl _) | (with_reducible assumption) | (with_reducible refine Grew.alloc ?_ _) | (with_reducible refine Grew.app_r ?_) | ((with_reducible refine Grew.setCell ?_ ?_ _); rotate_left; (focus (dsimp only; first | omega | (simp only [size_ext, World.size_alloc, Array.size_append]; omega)))) | (with_reducible refine Grew.ext ?_ _ _) | (with_reducible refine Grew.drewN ?_ _) | (with_reducible refine Grew.drew ?_)))) hv (fun k h1 h2 => .inl (by have := hk k h1; simp only [size_ext] at *; omega)) (by simp only [mkA_cons, mkA_nil, List.setIfInBounds_toArray, List.set_cons_zero, List.set_cons_succ, *] )
                  refine stepsD_cons (j := 8) rfl ?_ ?_
                  · intro L ρ own u hS K hK
                    obtain ⟨g1, a1, n1, c1, E1, e1, hv1, hs1⟩ := dvOut (hS.fact 1 rfl rfl (by kernel_rfl))
                    change ρ 110 = _ at e1
                    obtain ⟨g6, a6, n6, c6, E6, e6, hv6, hs6⟩ := dvOut (hS.fact 6 rfl rfl (by kernel_rfl))
                    change ρ 115 = _ at e6
                    obtain ⟨o', n', hu⟩ := hS.grew
                    subst hu
                    simp only [mkA_cons, mkA_nil, List.setIfInBounds_toArray, List.set_cons_zero, List.set_cons_succ]
                    go_wp2_with (first | (go_at_call 28; ((with_reducible refine (dmul_any _ _ _ _ (-70) 70 (-70) 70 _ hv1 hv6 (by decide) (by decide) (by decide) (by decide)).mono ?_); rintro e w1 ⟨v, rfl, hv, hk, o1, n1, rfl⟩; (obtain ⟨v1, v2, v3, v4, v5, rfl⟩ := hv.shape))))
                    try simp only [drew_ext, drewN_ext, ext_ext] at hv
                    exact hS.dv rfl rfl (by kernel_rfl) (by (show Grew _ _; (try simp only [← Array.append_assoc]); repeat (first | (with_reducible exact Grew.same_o) | (with_reducible exact Grew.refl _) | (with_reducible assumption) | (with_reducible refine Grew.alloc ?_ _) | (with_reducible refine Grew.app_r ?_) | ((with_reducible refine Grew.setCell ?_ ?_ _); rotate_left; (focus (dsimp only; first | omega | (simp only [size_ext, World.size_alloc, Array.size_append]; omega)))) | (with_reducible refine Grew.ext ?_ _ _) | (with_reducible refine Grew.drewN ?_ _) | (with_reducible refine Grew.drew ?_)))) hv (fun k h1 h2 => .inl (by have := hk k h1; simp only [size_ext] at *; omega)) (by simp only [mkA_cons, mkA_nil, List.setIfInBounds_toArray, List.set_cons_zero, List.set_cons_succ, *] )
                  refine stepsD_cons (j := 9) rfl ?_ ?_
                  · intro L ρ own u hS K hK
                    simp only [mkA_cons, mkA_nil, List.setIfInBounds_toArray, List.set_cons_zero, List.set_cons_succ]
                    go_wp2_with fail
                    exact hS.box rfl rfl (by kernel_rfl) rfl (by simp only [mkA_cons, mkA_nil, List.setIfInBounds_toArray, List.set_cons_zero, List.set_cons_succ, *] )
                  refine stepsD_cons (j := 10) rfl ?_ ?_
                  · intro L ρ own u hS K hK
                    exact hS.put (kb := 8) (kr := 7) rfl rfl (by kernel_rfl) (by decide) rfl rfl (by kernel_rfl) rfl rfl rfl (by kernel_rfl) rfl rfl (by simp only [mkA_cons, mkA_nil, List.setIfInBounds_toArray, List.set_cons_zero, List.set_cons_succ]; rfl) (by simp only [mkA_cons, mkA_nil, List.setIfInBounds_toArray, List.set_cons_zero, List.set_cons_succ]; rfl) (by kernel_rfl) hK
                  exact stepsD_nil
                obtain ⟨p9, g9, a9, n9, c9, E9, e9, zl9, ow9, bx9, hd9, sf9⟩ := putOut (hF 9 _ _ rfl rfl)
                have ce9 := bx9.cell
                have fr9 := bx9.frozen
                have zr9 := bx9.lt
                have nw9 := safeNew sf9 h0F (by simp)
                change ρ 19 = _ at e9
                have y0 := hF 0 _ _ rfl rfl
                change ρ 109 = _ at y0
                have y2 := hF 2 _ _ rfl rfl
                change ρ 111 = _ at y2
                have y3 := hF 3 _ _ rfl rfl
                change ρ 112 = _ at y3
                have y4 := hF 4 _ _ rfl rfl
                change ρ 113 = _ at y4
                have y5 := hF 5 _ _ rfl rfl
                change ρ 114 = _ at y5
                simp only [mkA_cons, mkA_nil, List.setIfInBounds_toArray, List.set_cons_zero, List.set_cons_succ, e9, y0, y2, y3, y4, y5]
                have gwV : Grew wr V := Grew.trans gV1 gV
                have gw2 : Grew U0 V := Grew.trans gw gwV
                have C13 := B13.grew gwV
                have C14 := B14.grew gwV
                have C15 := B15.grew gwV
                have hDa' := hDa.grew gwV
                have hDb' := hDb.grew gwV
                have hDd' := hDd.grew gwV
                have zSS : ∀ k, k ∈ [p13, p14, p15] → k < V1.heap.size := fun k hk => by
                  simp only [List.mem_cons, List.not_mem_nil, or_false] at hk
                  omega
                have qp : dNot (.agg #[.bool g9, .slice a9 n9 c9, .int .i64 E9]) [p13, p14, p15] := dNot.of_new nw9 zSS
                have n9' : p9 ∉ [p13, p14, p15] := fun h => by have := zSS _ h; omega
                have u13 := C13.cell
                have u14 := C14.cell
                have v13 := C13.frozen
                have zV := gV.below.size
                have y13 : p13 < V.heap.size := by omega
                have y14 : p14 < V.heap.size := by omega
                have y15 : p15 < V.heap.size := by omega
                have zwV : U0.heap.size ≤ V.heap.size := gw2.below.size
                clear hF h0F sf9 nw9 ow9 B13 B14 B15 t13 t14 t15 r13' r14' r15' hDa hDb hDd hbz hbzw gV gw1 tT kT' kz g3 gV1
                go_upto_region 25 with (first | (go_at_call 31; ((with_reducible refine (dadd_any _ _ _ _ (-150) (150 + j) _ (hDa'.grew (by (show Grew _ _; (try simp only [← Array.append_assoc]); repeat (first | (with_reducible exact Grew.same_o) | (with_reducible exact Grew.refl _) | (with_reducible assumption) | (with_reducible refine Grew.alloc ?_ _) | (with_reducible refine Grew.app_r ?_) | ((with_reducible refine Grew.setCell ?_ ?_ _); rotate_left; (focus (dsimp only; first | omega | (simp only [size_ext, World.size_alloc, Array.size_append]; omega)))) | (with_reducible refine Grew.ext ?_ _ _) | (with_reducible refine Grew.drewN ?_ _) | (with_reducible refine Grew.drew ?_))))) ((hd9.grew (by (show Grew _ _; (try simp only [← Array.append_assoc]); repeat (first | (with_reducible exact Grew.same_o) | (with_reducible exact Grew.refl _) | (with_reducible assumption) | (with_reducible refine Grew.alloc ?_ _) | (with_reducible refine Grew.app_r ?_) | ((with_reducible refine Grew.setCell ?_ ?_ _); rotate_left; (focus (dsimp only; first | omega | (simp only [size_ext, World.size_alloc, Array.size_append]; omega)))) | (with_reducible refine Grew.ext ?_ _ _) | (with_reducible refine Grew.drewN ?_ _) | (with_reducible refine Grew.drew ?_))))).mono (by omega) (by omega)) (by omega) (by omega)).mono ?_); rintro e w1 ⟨r2, rfl, hr2, hk2, o2, n2, rfl⟩; (obtain ⟨s1, s2, s3, s4, s5, rfl⟩ := hr2.shape))))
                refine name_any (fun U hU => ?_)
                rw [C13.set3_ext rfl] at hU
                have hr2x : DV (ext V o2 n2) (.agg #[.bool s1, .slice s2 s3 s4, .int .i64 s5]) (S j + QP * QZ) (-150) (150 + j + 1) := hr2
                have q2 : dNot (.agg #[.bool s1, .slice s2 s3 s4, .int .i64 s5]) [p13, p14, p15] := dNot.of_new (b := V.heap.size) (fun k h1 _ => hk2 k h1) (fun k hk => Nat.lt_of_lt_of_le (zSS k hk) zV)
                have gE : Grew V (ext V o2 n2) := ⟨_, _, rfl⟩
                have gU : Grew U0 U := by rw [← hU]; exact (Grew.trans gw2 gE).upd (by omega) _
                have D13 : Box U p13 #[.bool s1, .slice s2 s3 s4, .int .i64 s5] := by rw [← hU]; exact (C13.grew gE).upd_self _
                have D14 : Box U p14 #[.bool nb, .slice ba bn bc, .int .i64 bE] := by rw [← hU]; exact (C14.grew gE).upd_ne (fun e => l1314 e.symm) _
                have D15' : Box U p15 #[.bool nd, .slice da dn dc, .int .i64 dE] := by rw [← hU]; exact (C15.grew gE).upd_ne (fun e => l1315 e.symm) _
                have D9 : Box U p9 #[.bool g9, .slice a9 n9 c9, .int .i64 E9] := by rw [← hU]; exact (bx9.grew gE).upd_ne (fun e => n9' (by rw [e]; simp)) _
                have hp3 : DV U (.agg #[.bool g9, .slice a9 n9 c9, .int .i64 E9]) (QP * QZ) (-140) 141 := by rw [← hU]; exact (hd9.grew gE).upd_not qp (by simp) _
                have hb3 : DV U (.agg #[.bool nb, .slice ba bn bc, .int .i64 bE]) (T j) (-150) (150 + j) := by rw [← hU]; exact (hDb'.grew gE).upd_not qb (by simp) _
                have hd3 : DV U (.agg #[.bool nd, .slice da dn dc, .int .i64 dE]) (G j) (-70) (80 + j) := by rw [← hU]; exact (hDd'.grew gE).upd_not qd (by simp) _
                have ha3 : DV U (.agg #[.bool s1, .slice s2 s3 s4, .int .i64 s5]) (S j + QP * QZ) (-150) (150 + j + 1) := by rw [← hU]; exact hr2x.upd_not q2 (by simp) _
                have zU : V.heap.size ≤ U.heap.size := by rw [← hU]; simp only [size_upd, size_ext]; omega
                clear hU hr2 hr2x hk2 gE C13 C14 C15 bx9 hd9 hDa' hDb' hDd' u13 u14 v13 qa qp ce9 fr9
                have t13 := D13.cell
                have t14 := D14.cell
                have t9 := D9.cell
                have r14 := D14.frozen
                have k9 := D9.lt
                have k13 := D13.lt
                have k14 := D14.lt
                have k15 := D15'.lt
                go_wp2
                refine wp_region_R (Grew U) [4] [(0,0), (0,1), (1,2), (1,3), (2,4)] (by kernel_rfl) (by kernel_rfl) (fun _ _ _ _ h _ => h) (by first | exact ⟨_, _, ext_drew⟩ | exact ⟨_, _, drew_ext0⟩ | (show Grew _ _; repeat (first | (with_reducible exact Grew.refl _) | (with_reducible assumption) | (with_reducible exact Grew.same_o) | (with_reducible exact Grew.app_o) | (with_reducible refine Grew.ext ?_ _ _) | (with_reducible refine Grew.alloc ?_ _) | ((with_reducible refine Grew.setCell ?_ ?_ _); rotate_left; (focus (dsimp only; first | omega | (simp only [size_ext, World.size_alloc, Array.size_append]; omega)))) | (with_reducible refine Grew.drewN ?_ _) | (with_reducible refine Grew.drew ?_)))) ?_
                go_upto_region 26 with (first | ((with_reducible refine wpR_id ?_); first | (refine wpR_take (v := ?_) rfl rfl ?_ ?_; rotate_left; (focus (rintro w' ⟨o', n', rfl⟩; go_simp; try with_reducible rfl)); simp only [Act.put, List.setIfInBounds_toArray, List.set_cons_zero, List.set_cons_succ]) | (refine wpR_pure (v := ?_) rfl rfl ?_ ?_; rotate_left; (focus (intro w'; go_simp; try with_reducible rfl)); simp only [Act.put, List.setIfInBounds_toArray, List.set_cons_zero, List.set_cons_succ]) | (refine wpR_takeG (v := ?_) rfl rfl rfl rfl rfl ?_ ?_; rotate_left; (focus (rintro w' ⟨o', n', rfl⟩; go_simp; try with_reducible rfl)); simp only [Act.put, List.setIfInBounds_toArray, List.set_cons_zero, List.set_cons_succ]) | (refine wpR_skip rfl rfl rfl rfl rfl rfl ?_; simp only [Act.put, List.setIfInBounds_toArray, List.set_cons_zero, List.set_cons_succ]) | (refine wpR_skipU rfl rfl rfl rfl rfl ?_; simp only [Act.put, List.setIfInBounds_toArray, List.set_cons_zero, List.set_cons_succ]) | (refine wpR_do rfl rfl (fun K hK => ?_)) | (refine wpR_doG rfl rfl rfl rfl rfl (fun K hK => ?_)) | (refine wpR_last rfl rfl (fun K hK => ?_)) | (refine wpR_nil ?_)) | ((with_reducible refine wpR_go ?_ ?_); (focus (show Grew _ _; repeat (first | (with_reducible exact Grew.refl _) | (with_reducible assumption) | (with_reducible exact Grew.same_o) | (with_reducible exact Grew.app_o) | (with_reducible refine Grew.ext ?_ _ _) | (with_reducible refine Grew.alloc ?_ _) | ((with_reducible refine Grew.setCell ?_ ?_ _); rotate_left; (focus (dsimp only; first | omega | (simp only [size_ext, World.size_alloc, Array.size_append]; omega)))) | (with_reducible refine Grew.drewN ?_ _) | (with_reducible refine Grew.drew ?_))))) | ((with_reducible refine upon_id ?_); refine upon_fop rfl (by assumption) (by assumption) ?_; intro rr nn hr) | (go_at_call 30; ((with_reducible refine (dabs_any _ _ _ _ _ (hp3.grew (by (show Grew _ _; (try simp only [← Array.append_assoc]); repeat (first | (with_reducible exact Grew.same_o) | (with_reducible exact Grew.refl _) | (with_reducible assumption) | (with_reducible refine Grew.alloc ?_ _) | (with_reducible refine Grew.app_r ?_) | ((with_reducible refine Grew.setCell ?_ ?_ _); rotate_left; (focus (dsimp only; first | omega | (simp only [size_ext, World.size_alloc, Array.size_append]; omega)))) | (with_reducible refine Grew.ext ?_ _ _) | (with_reducible refine Grew.drewN ?_ _) | (with_reducible refine Grew.drew ?_)))))).mono ?_); rintro e w1 ⟨r5, rfl, hr5, hk5, o5, n5, rfl⟩; (obtain ⟨x1, x2, x3, x4, x5, rfl⟩ := hr5.shape); (try simp only [drew_ext, drewN_ext, ext_ext] at hr5))) | (go_at_call 31; ((with_reducible refine (dadd_any _ _ _ _ (-150) (150 + j) _ (hb3.grew (by (show Grew _ _; (try simp only [← Array.append_assoc]); repeat (first | (with_reducible exact Grew.same_o) | (with_reducible exact Grew.refl _) | (with_reducible assumption) | (with_reducible refine Grew.alloc ?_ _) | (with_reducible refine Grew.app_r ?_) | ((with_reducible refine Grew.setCell ?_ ?_ _); rotate_left; (focus (dsimp only; first | omega | (simp only [size_ext, World.size_alloc, Array.size_append]; omega)))) | (with_reducible refine Grew.ext ?_ _ _) | (with_reducible refine Grew.drewN ?_ _) | (with_reducible refine Grew.drew ?_))))) ((hr5.grew (by (show Grew _ _; (try simp only [← Array.append_assoc]); repeat (first | (with_reducible exact Grew.same_o) | (with_reducible exact Grew.refl _) | (with_reducible assumption) | (with_reducible refine Grew.alloc ?_ _) | (with_reducible refine Grew.app_r ?_) | ((with_reducible refine Grew.setCell ?_ ?_ _); rotate_left; (focus (dsimp only; first | omega | (simp only [size_ext, World.size_alloc, Array.size_append]; omega)))) | (with_reducible refine Grew.ext ?_ _ _) | (with_reducible refine Grew.drewN ?_ _) | (with_reducible refine Grew.drew ?_))))).mono (by omega) (by omega)) (by omega) (by omega)).mono ?_); rintro e w1 ⟨r6, rfl, hr6, hk6, o6, n6, rfl⟩; (obtain ⟨y1, y2, y3, y4, y5, rfl⟩ := hr6.shape); (try simp only [drew_ext, drewN_ext, ext_ext] at hr6))))
                refine name_any (fun X hX => ?_)
                rw [D14.set3_ext rfl] at hX
                have gX : Grew U (ext U (o5 ++ o6) n6) := ⟨_, _, rfl⟩
                have zS : ∀ k, k ∈ [p13, p14, p15] → k < U.heap.size := fun k hk => Nat.lt_of_lt_of_le (zSS k hk) (Nat.le_trans zV zU)
                have q6 : dNot (.agg #[.bool y1, .slice y2 y3 y4, .int .i64 y5]) [p13, p14, p15] := dNot.of_new (b := U.heap.size) (fun k h1 _ => by have := hk6 k h1; simp only [size_ext] at this; omega) zS
                have F13 : Box X p13 #[.bool s1, .slice s2 s3 s4, .int .i64 s5] := by rw [← hX]; exact (D13.grew gX).upd_ne l1314 _
                have F14 : Box X p14 #[.bool y1, .slice y2 y3 y4, .int .i64 y5] := by rw [← hX]; exact (D14.grew gX).upd_self _
                have F15 : Box X p15 #[.bool nd, .slice da dn dc, .int .i64 dE] := by rw [← hX]; exact (D15'.grew gX).upd_ne (fun e => l1415 e.symm) _
                have vA : DV X (.agg #[.bool s1, .slice s2 s3 s4, .int .i64 s5]) (S (j + 1)) (-150) (150 + j + 1) := by rw [← hX, ES.out]; exact (ha3.grew gX).upd_not q2 (by simp) _
                have vB : DV X (.agg #[.bool y1, .slice y2 y3 y4, .int .i64 y5]) (T (j + 1)) (-150) (150 + j + 1) := by rw [← hX, ET.out]; exact (hr6.upd_not q6 (by simp) _).mono (by omega) (by omega)
                have vD : DV X (.agg #[.bool nd, .slice da dn dc, .int .i64 dE]) (G j) (-70) (80 + j) := by rw [← hX]; exact (hd3.grew gX).upd_not qd (by simp) _
                have gXw : Grew U0 X := by rw [← hX]; exact (gU.ext _ _).upd (by omega) _
                have zX : U.heap.size ≤ X.heap.size := by rw [← hX]; simp only [size_upd, size_ext]; omega
                clear hX hr6 hr5 hk6 hk5 ha3 hb3 hp3 hd3 D13 D14 D15' D9 t13 t14 t9 r14 k9 k13 k14 k15 gX ES ET
                by_cases hij : i = j
                · have eG := EG.out hij.symm
                  have dij : ((i : Int) == (j : Int)) = true := by simp; omega
                  have EG2 := hid eG
                  have hij' := hid hij
                  clear eG EG hij
                  have t15 := F15.cell
                  have k15 := F15.lt
                  have r15 := F15.frozen
                  go_upto_region 27 with fail
                  refine wp_region_R (Grew X) [5] [(0,0), (3,1), (1,2), (1,3), (1,4), (2,5)] (by kernel_rfl) (by kernel_rfl) (fun _ _ _ _ h _ => h) (by first | exact ⟨_, _, ext_drew⟩ | exact ⟨_, _, drew_ext0⟩ | (show Grew _ _; repeat (first | (with_reducible exact Grew.refl _) | (with_reducible assumption) | (with_reducible exact Grew.same_o) | (with_reducible exact Grew.app_o) | (with_reducible refine Grew.ext ?_ _ _) | (with_reducible refine Grew.alloc ?_ _) | ((with_reducible refine Grew.setCell ?_ ?_ _); rotate_left; (focus (dsimp only; first | omega | (simp only [size_ext, World.size_alloc, Array.size_append]; omega)))) | (with_reducible refine Grew.drewN ?_ _) | (with_reducible refine Grew.drew ?_)))) ?_
                  go_wp2_with (first | ((with_reducible refine wpR_id ?_); first | (refine wpR_take (v := ?_) rfl rfl ?_ ?_; rotate_left; (focus (rintro w' ⟨o', n', rfl⟩; go_simp; try with_reducible rfl)); simp only [Act.put, List.setIfInBounds_toArray, List.set_cons_zero, List.set_cons_succ]) | (refine wpR_pure (v := ?_) rfl rfl ?_ ?_; rotate_left; (focus (intro w'; go_simp; try with_reducible rfl)); simp only [Act.put, List.setIfInBounds_toArray, List.set_cons_zero, List.set_cons_succ]) | (refine wpR_takeG (v := ?_) rfl rfl rfl rfl rfl ?_ ?_; rotate_left; (focus (rintro w' ⟨o', n', rfl⟩; go_simp; try with_reducible rfl)); simp only [Act.put, List.setIfInBounds_toArray, List.set_cons_zero, List.set_cons_succ]) | (refine wpR_skip rfl rfl rfl rfl rfl rfl ?_; simp only [Act.put, List.setIfInBounds_toArray, List.set_cons_zero, List.set_cons_succ]) | (refine wpR_skipU rfl rfl rfl rfl rfl ?_; simp only [Act.put, List.setIfInBounds_toArray, List.set_cons_zero, List.set_cons_succ]) | (refine wpR_do rfl rfl (fun K hK => ?_)) | (refine wpR_doG rfl rfl rfl rfl rfl (fun K hK => ?_)) | (refine wpR_last rfl rfl (fun K hK => ?_)) | (refine wpR_nil ?_)) | ((with_reducible refine wpR_go ?_ ?_); (focus (show Grew _ _; repeat (first | (with_reducible exact Grew.refl _) | (with_reducible assumption) | (with_reducible exact Grew.same_o) | (with_reducible exact Grew.app_o) | (with_reducible refine Grew.ext ?_ _ _) | (with_reducible refine Grew.alloc ?_ _) | ((with_reducible refine Grew.setCell ?_ ?_ _); rotate_left; (focus (dsimp only; first | omega | (simp only [size_ext, World.size_alloc, Array.size_append]; omega)))) | (with_reducible refine Grew.drewN ?_ _) | (with_reducible refine Grew.drew ?_))))) | ((with_reducible refine upon_id ?_); refine upon_fop rfl (by assumption) (by assumption) ?_; intro rr nn hr) | (go_at_call 27; ((with_reducible refine (hofp _).mono ?_); rintro e w1 ⟨b1, rfl, hb1, hkb1, o1, n1, rfl⟩; (obtain ⟨w11, w12, w13, w14, w15, rfl⟩ := hb1.shape); (try simp only [drew_ext, drewN_ext, ext_ext] at hb1))) | (go_at_call 30; ((with_reducible refine (dabs_any _ _ _ _ _ (hb1.grew (by (show Grew _ _; (try simp only [← Array.append_assoc]); repeat (first | (with_reducible exact Grew.same_o) | (with_reducible exact Grew.refl _) | (with_reducible assumption) | (with_reducible refine Grew.alloc ?_ _) | (with_reducible refine Grew.app_r ?_) | ((with_reducible refine Grew.setCell ?_ ?_ _); rotate_left; (focus (dsimp only; first | omega | (simp only [size_ext, World.size_alloc, Array.size_append]; omega)))) | (with_reducible refine Grew.ext ?_ _ _) | (with_reducible refine Grew.drewN ?_ _) | (with_reducible refine Grew.drew ?_)))))).mono ?_); rintro e w1 ⟨b2, rfl, hb2, hkb2, o2, n2, rfl⟩; (obtain ⟨w21, w22, w23, w24, w25, rfl⟩ := hb2.shape); (try simp only [drew_ext, drewN_ext, ext_ext] at hb2))))
                  have vD2 := vD.grew (show Grew X (ext X (o1 ++ o2) n2) from ⟨_, _, rfl⟩)
                  have hb4 := hb2.mono (show -70 ≤ (-70 : Int) by decide) (show (70 : Int) ≤ 80 + j by omega)
                  go_upto_region 20 with (first | ((with_reducible refine wpR_id ?_); first | (refine wpR_take (v := ?_) rfl rfl ?_ ?_; rotate_left; (focus (rintro w' ⟨o', n', rfl⟩; go_simp; try with_reducible rfl)); simp only [Act.put, List.setIfInBounds_toArray, List.set_cons_zero, List.set_cons_succ]) | (refine wpR_pure (v := ?_) rfl rfl ?_ ?_; rotate_left; (focus (intro w'; go_simp; try with_reducible rfl)); simp only [Act.put, List.setIfInBounds_toArray, List.set_cons_zero, List.set_cons_succ]) | (refine wpR_takeG (v := ?_) rfl rfl rfl rfl rfl ?_ ?_; rotate_left; (focus (rintro w' ⟨o', n', rfl⟩; go_simp; try with_reducible rfl)); simp only [Act.put, List.setIfInBounds_toArray, List.set_cons_zero, List.set_cons_succ]) | (refine wpR_skip rfl rfl rfl rfl rfl rfl ?_; simp only [Act.put, List.setIfInBounds_toArray, List.set_cons_zero, List.set_cons_succ]) | (refine wpR_skipU rfl rfl rfl rfl rfl ?_; simp only [Act.put, List.setIfInBounds_toArray, List.set_cons_zero, List.set_cons_succ]) | (refine wpR_do rfl rfl (fun K hK => ?_)) | (refine wpR_doG rfl rfl rfl rfl rfl (fun K hK => ?_)) | (refine wpR_last rfl rfl (fun K hK => ?_)) | (refine wpR_nil ?_)) | ((with_reducible refine wpR_go ?_ ?_); (focus (show Grew _ _; repeat (first | (with_reducible exact Grew.refl _) | (with_reducible assumption) | (with_reducible exact Grew.same_o) | (with_reducible exact Grew.app_o) | (with_reducible refine Grew.ext ?_ _ _) | (with_reducible refine Grew.alloc ?_ _) | ((with_reducible refine Grew.setCell ?_ ?_ _); rotate_left; (focus (dsimp only; first | omega | (simp only [size_ext, World.size_alloc, Array.size_append]; omega)))) | (with_reducible refine Grew.drewN ?_ _) | (with_reducible refine Grew.drew ?_))))) | ((with_reducible refine upon_id ?_); refine upon_fop rfl (by assumption) (by assumption) ?_; intro rr nn hr) | (go_at_call 31; ((with_reducible refine (dadd_any _ _ _ _ (-70) (80 + j) _ vD2 hb4 (by decide) (by omega)).mono ?_); rintro e w1 ⟨b3, rfl, hb3, hkb3, o3, n3, rfl⟩; (obtain ⟨w31, w32, w33, w34, w35, rfl⟩ := hb3.shape); (try simp only [drew_ext, drewN_ext, ext_ext] at hb3))))
                  rw [Array.append_assoc] at hb3
                  refine name_any (fun Y1 hY1 => ?_)
                  rw [F15.set3_ext rfl] at hY1
                  have gE : Grew X (ext X (o1 ++ (o2 ++ o3)) n3) := ⟨_, _, rfl⟩
                  have zS' : ∀ k, k ∈ [p13, p14, p15] → k < X.heap.size := fun k hk => Nat.lt_of_lt_of_le (zS k hk) zX
                  have q7 : dNot (.agg #[.bool w31, .slice w32 w33 w34, .int .i64 w35]) [p13, p14, p15] := dNot.of_new (b := X.heap.size) (fun k h1 _ => by have := hkb3 k h1; simp only [size_ext] at this; omega) zS'
                  have G13 : Box Y1 p13 #[.bool s1, .slice s2 s3 s4, .int .i64 s5] := by rw [← hY1]; exact (F13.grew gE).upd_ne l1315 _
                  have G14 : Box Y1 p14 #[.bool y1, .slice y2 y3 y4, .int .i64 y5] := by rw [← hY1]; exact (F14.grew gE).upd_ne l1415 _
                  have G15 : Box Y1 p15 #[.bool w31, .slice w32 w33 w34, .int .i64 w35] := by rw [← hY1]; exact (F15.grew gE).upd_self _
                  have uA : DV Y1 (.agg #[.bool s1, .slice s2 s3 s4, .int .i64 s5]) (S (j + 1)) (-150) (150 + j + 1) := by rw [← hY1]; exact (vA.grew gE).upd_not q2 (by simp) _
                  have uB : DV Y1 (.agg #[.bool y1, .slice y2 y3 y4, .int .i64 y5]) (T (j + 1)) (-150) (150 + j + 1) := by rw [← hY1]; exact (vB.grew gE).upd_not q6 (by simp) _
                  have uD : DV Y1 (.agg #[.bool w31, .slice w32 w33 w34, .int .i64 w35]) (G (j + 1)) (-70) (80 + j + 1) := by rw [← hY1, EG2.out]; exact hb3.upd_not q7 (by simp) _
                  have gY : Grew U0 Y1 := by rw [← hY1]; exact (Grew.trans gXw gE).upd (by omega) _
                  clear hY1 hb1 hb2 hb3 hb4 hkb1 hkb2 hkb3 vA vB vD vD2 F13 F14 F15 gE t15 k15 r15 gXw EG2 hij'
                  go_wp2
                  go_roundw
                  case rel => exact ⟨j + 1, s1, s2, s3, s4, s5, y1, y2, y3, y4, y5, w31, w32, w33, w34, w35, hjR, by go_num, gY, G13, G14, G15, uA.mono (by omega) (by omega), uB.mono (by omega) (by omega), uD.mono (by omega) (by omega), q2, q6, q7⟩
                  case measure => simp [intOf]; omega
                · have eG := HG1.out j (fun e => hij e.symm)
                  have dij : ((i : Int) == (j : Int)) = false := by simp; omega
                  have EG2 := hid eG
                  clear eG EG hij
                  go_wp2
                  go_roundw
                  case rel => exact ⟨j + 1, s1, s2, s3, s4, s5, y1, y2, y3, y4, y5, nd, da, dn, dc, dE, hjR, by go_num, gXw, F13, F14, F15, vA.mono (by omega) (by omega), vB.mono (by omega) (by omega), by rw [EG2.out]; exact vD.mono (by omega) (by omega), q2, q6, qd⟩
                  case measure => simp [intOf]; omega
            · have e : j = n := by omega
              subst e
              have e1 : IntKind.i64.wrap ((j : Int) + 1) = (j : Int) + 1 := IntWalk.i64_in _ (by omega)
              clear hAt hZb HS1 HT1 HG1 HG2 HC1 HC0 hby
              obtain ⟨Q1, hQ1⟩ : ∃ q, q = T j * p2 (-51) := ⟨_, rfl⟩
              obtain ⟨Q2, hQ2⟩ : ∃ q, q = G j * p2 (-1060) := ⟨_, rfl⟩
              obtain ⟨QS, hQS⟩ : ∃ q, q = S j := ⟨_, rfl⟩
              have hlw := HLi.out
              rw [← hQ1, ← hQ2, ← hQS] at hlw
              rw [← hQS] at hDa
              have hc1 : ∀ w', Grew wr w' → Calls Try.prog 32 #[.agg #[.bool nb, .slice ba bn bc, .int .i64 bE], .int .i64 (-51)] w' (fun e w2 => ∃ v, e = .returned v ∧ DV w2 v Q1 (-160) 170 ∧ (∀ b, dBlock v = some b → w'.heap.size ≤ b) ∧ ∃ o n, w2 = ext w' o n) := fun w' g => by
                refine (dshift_any _ _ (-150) 165 (-51) w' ((hDb.grew g).mono (by omega) (by omega)) (by decide) (by decide) (by decide)).mono fun e w2 hh => ?_
                obtain ⟨v, r1, r2, r3, r4⟩ := hh
                rw [← hQ1] at r2
                exact ⟨v, r1, r2.mono (by decide) (by decide), r3, r4⟩
              have hc3 : ∀ w', Grew wr w' → Calls Try.prog 32 #[.agg #[.bool nd, .slice da dn dc, .int .i64 dE], .int .i64 (-1060)] w' (fun e w2 => ∃ v, e = .returned v ∧ DV w2 v Q2 (-160) 170 ∧ (∀ b, dBlock v = some b → w'.heap.size ≤ b) ∧ ∃ o n, w2 = ext w' o n) := fun w' g => by
                refine (dshift_any _ _ (-70) 95 (-1060) w' ((hDd.grew g).mono (by omega) (by omega)) (by decide) (by decide) (by decide)).mono fun e w2 hh => ?_
                obtain ⟨v, r1, r2, r3, r4⟩ := hh
                rw [← hQ2] at r2
                exact ⟨v, r1, r2.mono (by decide) (by decide), r3, r4⟩
              have hSD := hDa.mono (show -200 ≤ _ by omega) (show _ ≤ 200 by omega)
              have HSD := hid hSD
              clear hQ1 hQ2 hQS hDa hDb hDd hSD HLi qa qb qd
              go_upto_region 28 with fail
              refine wp_region_JD [0, 20] (wr) [.val (fun v => v = .agg #[.bool nb, .slice ba bn bc, .int .i64 bE]), .dv (Q1) (-160) (170), .val (fun v => v = .agg #[.bool nd, .slice da dn dc, .int .i64 dE]), .dv (Q2) (-160) (170), .dv (Q1 + Q2) (-160) (171), .val (fun v => v = .int .i64 j), .val (fun v => v = .int .i64 (j + 1)), .dv (T1) (0) (4), .dv ((Q1 + Q2) * T1) (-160) (176), .box, .put 20 ((Q1 + Q2) * T1) (-160) (176)] [132, 133, 134, 135, 136, 137, 138, 139, 140, 20] (by kernel_rfl) (by kernel_rfl) (by (show Grew _ _; (try simp only [← Array.append_assoc]); repeat (first | (with_reducible exact Grew.same_o) | (with_reducible exact Grew.refl _) | (with_reducible assumption) | (with_reducible refine Grew.alloc ?_ _) | (with_reducible refine Grew.app_r ?_) | ((with_reducible refine Grew.setCell ?_ ?_ _); rotate_left; (focus (dsimp only; first | omega | (simp only [size_ext, World.size_alloc, Array.size_append]; omega)))) | (with_reducible refine Grew.ext ?_ _ _) | (with_reducible refine Grew.drewN ?_ _) | (with_reducible refine Grew.drew ?_)))) ?_ (fun ρ own V gV h0F hF => ?_)
              · refine stepsD_cons (j := 1) rfl ?_ ?_
                · intro L ρ own u hS K hK
                  obtain ⟨o', n', hu⟩ := hS.grew
                  subst hu
                  simp only [mkA_cons, mkA_nil, List.setIfInBounds_toArray, List.set_cons_zero, List.set_cons_succ]
                  go_wp2_with fail
                  exact hS.val rfl rfl (by kernel_rfl) (by (show Grew _ _; (try simp only [← Array.append_assoc]); repeat (first | (with_reducible exact Grew.same_o) | (with_reducible exact Grew.refl _) | (with_reducible assumption) | (with_reducible refine Grew.alloc ?_ _) | (with_reducible refine Grew.app_r ?_) | ((with_reducible refine Grew.setCell ?_ ?_ _); rotate_left; (focus (dsimp only; first | omega | (simp only [size_ext, World.size_alloc, Array.size_append]; omega)))) | (with_reducible refine Grew.ext ?_ _ _) | (with_reducible refine Grew.drewN ?_ _) | (with_reducible refine Grew.drew ?_)))) (by first | rfl | assumption) (by simp only [mkA_cons, mkA_nil, List.setIfInBounds_toArray, List.set_cons_zero, List.set_cons_succ, *] )
                refine stepsD_cons (j := 2) rfl ?_ ?_
                · intro L ρ own u hS K hK
                  have e0 := hS.fact 0 rfl rfl (by kernel_rfl)
                  change ρ 132 = _ at e0
                  obtain ⟨o', n', hu⟩ := hS.grew
                  subst hu
                  simp only [mkA_cons, mkA_nil, List.setIfInBounds_toArray, List.set_cons_zero, List.set_cons_succ]
                  go_wp2_with (first | (go_at_call 32; ((with_reducible refine (hc1 _ (by (show Grew _ _; (try simp only [← Array.append_assoc]); repeat (first | (with_reducible exact Grew.same_o) | (with_reducible exact Grew.refl _) | (with_reducible assumption) | (with_reducible refine Grew.alloc ?_ _) | (with_reducible refine Grew.app_r ?_) | ((with_reducible refine Grew.setCell ?_ ?_ _); rotate_left; (focus (dsimp only; first | omega | (simp only [size_ext, World.size_alloc, Array.size_append]; omega)))) | (with_reducible refine Grew.ext ?_ _ _) | (with_reducible refine Grew.drewN ?_ _) | (with_reducible refine Grew.drew ?_))))).mono ?_); rintro e w1 ⟨v, rfl, hv, hk, o1, n1, rfl⟩; (obtain ⟨v1, v2, v3, v4, v5, rfl⟩ := hv.shape))))
                  try simp only [drew_ext, drewN_ext, ext_ext] at hv
                  exact hS.dv rfl rfl (by kernel_rfl) (by (show Grew _ _; (try simp only [← Array.append_assoc]); repeat (first | (with_reducible exact Grew.same_o) | (with_reducible exact Grew.refl _) | (with_reducible assumption) | (with_reducible refine Grew.alloc ?_ _) | (with_reducible refine Grew.app_r ?_) | ((with_reducible refine Grew.setCell ?_ ?_ _); rotate_left; (focus (dsimp only; first | omega | (simp only [size_ext, World.size_alloc, Array.size_append]; omega)))) | (with_reducible refine Grew.ext ?_ _ _) | (with_reducible refine Grew.drewN ?_ _) | (with_reducible refine Grew.drew ?_)))) hv (fun k h1 h2 => .inl (by have := hk k h1; simp only [size_ext] at *; omega)) (by simp only [mkA_cons, mkA_nil, List.setIfInBounds_toArray, List.set_cons_zero, List.set_cons_succ, *] )
                refine stepsD_cons (j := 3) rfl ?_ ?_
                · intro L ρ own u hS K hK
                  obtain ⟨o', n', hu⟩ := hS.grew
                  subst hu
                  simp only [mkA_cons, mkA_nil, List.setIfInBounds_toArray, List.set_cons_zero, List.set_cons_succ]
                  go_wp2_with fail
                  exact hS.val rfl rfl (by kernel_rfl) (by (show Grew _ _; (try simp only [← Array.append_assoc]); repeat (first | (with_reducible exact Grew.same_o) | (with_reducible exact Grew.refl _) | (with_reducible assumption) | (with_reducible refine Grew.alloc ?_ _) | (with_reducible refine Grew.app_r ?_) | ((with_reducible refine Grew.setCell ?_ ?_ _); rotate_left; (focus (dsimp only; first | omega | (simp only [size_ext, World.size_alloc, Array.size_append]; omega)))) | (with_reducible refine Grew.ext ?_ _ _) | (with_reducible refine Grew.drewN ?_ _) | (with_reducible refine Grew.drew ?_)))) (by first | rfl | assumption) (by simp only [mkA_cons, mkA_nil, List.setIfInBounds_toArray, List.set_cons_zero, List.set_cons_succ, *] )
                refine stepsD_cons (j := 4) rfl ?_ ?_
                · intro L ρ own u hS K hK
                  obtain ⟨g1, a1, n1, c1, E1, e1, hv1, hs1⟩ := dvOut (hS.fact 1 rfl rfl (by kernel_rfl))
                  change ρ 133 = _ at e1
                  have e2 := hS.fact 2 rfl rfl (by kernel_rfl)
                  change ρ 134 = _ at e2
                  obtain ⟨o', n', hu⟩ := hS.grew
                  subst hu
                  simp only [mkA_cons, mkA_nil, List.setIfInBounds_toArray, List.set_cons_zero, List.set_cons_succ]
                  go_wp2_with (first | (go_at_call 32; ((with_reducible refine (hc3 _ (by (show Grew _ _; (try simp only [← Array.append_assoc]); repeat (first | (with_reducible exact Grew.same_o) | (with_reducible exact Grew.refl _) | (with_reducible assumption) | (with_reducible refine Grew.alloc ?_ _) | (with_reducible refine Grew.app_r ?_) | ((with_reducible refine Grew.setCell ?_ ?_ _); rotate_left; (focus (dsimp only; first | omega | (simp only [size_ext, World.size_alloc, Array.size_append]; omega)))) | (with_reducible refine Grew.ext ?_ _ _) | (with_reducible refine Grew.drewN ?_ _) | (with_reducible refine Grew.drew ?_))))).mono ?_); rintro e w1 ⟨v, rfl, hv, hk, o1, n1, rfl⟩; (obtain ⟨v1, v2, v3, v4, v5, rfl⟩ := hv.shape))))
                  try simp only [drew_ext, drewN_ext, ext_ext] at hv
                  exact hS.dv rfl rfl (by kernel_rfl) (by (show Grew _ _; (try simp only [← Array.append_assoc]); repeat (first | (with_reducible exact Grew.same_o) | (with_reducible exact Grew.refl _) | (with_reducible assumption) | (with_reducible refine Grew.alloc ?_ _) | (with_reducible refine Grew.app_r ?_) | ((with_reducible refine Grew.setCell ?_ ?_ _); rotate_left; (focus (dsimp only; first | omega | (simp only [size_ext, World.size_alloc, Array.size_append]; omega)))) | (with_reducible refine Grew.ext ?_ _ _) | (with_reducible refine Grew.drewN ?_ _) | (with_reducible refine Grew.drew ?_)))) hv (fun k h1 h2 => .inl (by have := hk k h1; simp only [size_ext] at *; omega)) (by simp only [mkA_cons, mkA_nil, List.setIfInBounds_toArray, List.set_cons_zero, List.set_cons_succ, *] )
                refine stepsD_cons (j := 5) rfl ?_ ?_
                · intro L ρ own u hS K hK
                  obtain ⟨g1, a1, n1, c1, E1, e1, hv1, hs1⟩ := dvOut (hS.fact 1 rfl rfl (by kernel_rfl))
                  change ρ 133 = _ at e1
                  obtain ⟨g3, a3, n3, c3, E3, e3, hv3, hs3⟩ := dvOut (hS.fact 3 rfl rfl (by kernel_rfl))
                  change ρ 135 = _ at e3
                  obtain ⟨o', n', hu⟩ := hS.grew
                  subst hu
                  simp only [mkA_cons, mkA_nil, List.setIfInBounds_toArray, List.set_cons_zero, List.set_cons_succ]
                  go_wp2_with (first | (go_at_call 31; ((with_reducible refine (dadd_any _ _ _ _ (-160) 170 _ hv1 hv3 (by decide) (by decide)).mono ?_); rintro e w1 ⟨v, rfl, hv, hk, o1, n1, rfl⟩; (obtain ⟨v1, v2, v3, v4, v5, rfl⟩ := hv.shape))))
                  try simp only [drew_ext, drewN_ext, ext_ext] at hv
                  exact hS.dv rfl rfl (by kernel_rfl) (by (show Grew _ _; (try simp only [← Array.append_assoc]); repeat (first | (with_reducible exact Grew.same_o) | (with_reducible exact Grew.refl _) | (with_reducible assumption) | (with_reducible refine Grew.alloc ?_ _) | (with_reducible refine Grew.app_r ?_) | ((with_reducible refine Grew.setCell ?_ ?_ _); rotate_left; (focus (dsimp only; first | omega | (simp only [size_ext, World.size_alloc, Array.size_append]; omega)))) | (with_reducible refine Grew.ext ?_ _ _) | (with_reducible refine Grew.drewN ?_ _) | (with_reducible refine Grew.drew ?_)))) hv (fun k h1 h2 => .inl (by have := hk k h1; simp only [size_ext] at *; omega)) (by simp only [mkA_cons, mkA_nil, List.setIfInBounds_toArray, List.set_cons_zero, List.set_cons_succ, *] )
                refine stepsD_cons (j := 6) rfl ?_ ?_
                · intro L ρ own u hS K hK
                  obtain ⟨o', n', hu⟩ := hS.grew
                  subst hu
                  simp only [mkA_cons, mkA_nil, List.setIfInBounds_toArray, List.set_cons_zero, List.set_cons_succ]
                  go_wp2_with fail
                  exact hS.val rfl rfl (by kernel_rfl) (by (show Grew _ _; (try simp only [← Array.append_assoc]); repeat (first | (with_reducible exact Grew.same_o) | (with_reducible exact Grew.refl _) | (with_reducible assumption) | (with_reducible refine Grew.alloc ?_ _) | (with_reducible refine Grew.app_r ?_) | ((with_reducible refine Grew.setCell ?_ ?_ _); rotate_left; (focus (dsimp only; first | omega | (simp only [size_ext, World.size_alloc, Array.size_append]; omega)))) | (with_reducible refine Grew.ext ?_ _ _) | (with_reducible refine Grew.drewN ?_ _) | (with_reducible refine Grew.drew ?_)))) (by first | rfl | assumption) (by simp only [mkA_cons, mkA_nil, List.setIfInBounds_toArray, List.set_cons_zero, List.set_cons_succ, *] )
                refine stepsD_cons (j := 7) rfl ?_ ?_
                · intro L ρ own u hS K hK
                  have e5 := hS.fact 5 rfl rfl (by kernel_rfl)
                  change ρ 137 = _ at e5
                  obtain ⟨o', n', hu⟩ := hS.grew
                  subst hu
                  simp only [mkA_cons, mkA_nil, List.setIfInBounds_toArray, List.set_cons_zero, List.set_cons_succ]
                  go_wp2_with fail
                  exact hS.val rfl rfl (by kernel_rfl) (by (show Grew _ _; (try simp only [← Array.append_assoc]); repeat (first | (with_reducible exact Grew.same_o) | (with_reducible exact Grew.refl _) | (with_reducible assumption) | (with_reducible refine Grew.alloc ?_ _) | (with_reducible refine Grew.app_r ?_) | ((with_reducible refine Grew.setCell ?_ ?_ _); rotate_left; (focus (dsimp only; first | omega | (simp only [size_ext, World.size_alloc, Array.size_append]; omega)))) | (with_reducible refine Grew.ext ?_ _ _) | (with_reducible refine Grew.drewN ?_ _) | (with_reducible refine Grew.drew ?_)))) (by first | rfl | assumption) (by simp only [mkA_cons, mkA_nil, List.setIfInBounds_toArray, List.set_cons_zero, List.set_cons_succ, *] )
                refine stepsD_cons (j := 8) rfl ?_ ?_
                · intro L ρ own u hS K hK
                  obtain ⟨g4, a4, n4, c4, E4, e4, hv4, hs4⟩ := dvOut (hS.fact 4 rfl rfl (by kernel_rfl))
                  change ρ 136 = _ at e4
                  have e6 := hS.fact 6 rfl rfl (by kernel_rfl)
                  change ρ 138 = _ at e6
                  obtain ⟨o', n', hu⟩ := hS.grew
                  subst hu
                  simp only [mkA_cons, mkA_nil, List.setIfInBounds_toArray, List.set_cons_zero, List.set_cons_succ]
                  go_wp2_with (first | (go_at_call 33; ((with_reducible refine (hI2 _).mono ?_); rintro e w1 ⟨v, rfl, hv, hk, o1, n1, rfl⟩; (obtain ⟨v1, v2, v3, v4, v5, rfl⟩ := hv.shape))))
                  try simp only [drew_ext, drewN_ext, ext_ext] at hv
                  exact hS.dv rfl rfl (by kernel_rfl) (by (show Grew _ _; (try simp only [← Array.append_assoc]); repeat (first | (with_reducible exact Grew.same_o) | (with_reducible exact Grew.refl _) | (with_reducible assumption) | (with_reducible refine Grew.alloc ?_ _) | (with_reducible refine Grew.app_r ?_) | ((with_reducible refine Grew.setCell ?_ ?_ _); rotate_left; (focus (dsimp only; first | omega | (simp only [size_ext, World.size_alloc, Array.size_append]; omega)))) | (with_reducible refine Grew.ext ?_ _ _) | (with_reducible refine Grew.drewN ?_ _) | (with_reducible refine Grew.drew ?_)))) hv (fun k h1 h2 => .inl (by have := hk k h1; simp only [size_ext] at *; omega)) (by simp only [mkA_cons, mkA_nil, List.setIfInBounds_toArray, List.set_cons_zero, List.set_cons_succ, *] )
                refine stepsD_cons (j := 9) rfl ?_ ?_
                · intro L ρ own u hS K hK
                  obtain ⟨g4, a4, n4, c4, E4, e4, hv4, hs4⟩ := dvOut (hS.fact 4 rfl rfl (by kernel_rfl))
                  change ρ 136 = _ at e4
                  obtain ⟨g7, a7, n7, c7, E7, e7, hv7, hs7⟩ := dvOut (hS.fact 7 rfl rfl (by kernel_rfl))
                  change ρ 139 = _ at e7
                  obtain ⟨o', n', hu⟩ := hS.grew
                  subst hu
                  simp only [mkA_cons, mkA_nil, List.setIfInBounds_toArray, List.set_cons_zero, List.set_cons_succ]
                  go_wp2_with (first | (go_at_call 28; ((with_reducible refine (dmul_any _ _ _ _ (-160) 171 0 4 _ hv4 hv7 (by decide) (by decide) (by decide) (by decide)).mono ?_); rintro e w1 ⟨v, rfl, hv, hk, o1, n1, rfl⟩; (obtain ⟨v1, v2, v3, v4, v5, rfl⟩ := hv.shape))))
                  try simp only [drew_ext, drewN_ext, ext_ext] at hv
                  exact hS.dv rfl rfl (by kernel_rfl) (by (show Grew _ _; (try simp only [← Array.append_assoc]); repeat (first | (with_reducible exact Grew.same_o) | (with_reducible exact Grew.refl _) | (with_reducible assumption) | (with_reducible refine Grew.alloc ?_ _) | (with_reducible refine Grew.app_r ?_) | ((with_reducible refine Grew.setCell ?_ ?_ _); rotate_left; (focus (dsimp only; first | omega | (simp only [size_ext, World.size_alloc, Array.size_append]; omega)))) | (with_reducible refine Grew.ext ?_ _ _) | (with_reducible refine Grew.drewN ?_ _) | (with_reducible refine Grew.drew ?_)))) hv (fun k h1 h2 => .inl (by have := hk k h1; simp only [size_ext] at *; omega)) (by simp only [mkA_cons, mkA_nil, List.setIfInBounds_toArray, List.set_cons_zero, List.set_cons_succ, *] )
                refine stepsD_cons (j := 10) rfl ?_ ?_
                · intro L ρ own u hS K hK
                  simp only [mkA_cons, mkA_nil, List.setIfInBounds_toArray, List.set_cons_zero, List.set_cons_succ]
                  go_wp2_with fail
                  exact hS.box rfl rfl (by kernel_rfl) rfl (by simp only [mkA_cons, mkA_nil, List.setIfInBounds_toArray, List.set_cons_zero, List.set_cons_succ, *] )
                refine stepsD_cons (j := 11) rfl ?_ ?_
                · intro L ρ own u hS K hK
                  exact hS.put (kb := 9) (kr := 8) rfl rfl (by kernel_rfl) (by decide) rfl rfl (by kernel_rfl) rfl rfl rfl (by kernel_rfl) rfl rfl (by simp only [mkA_cons, mkA_nil, List.setIfInBounds_toArray, List.set_cons_zero, List.set_cons_succ]; rfl) (by simp only [mkA_cons, mkA_nil, List.setIfInBounds_toArray, List.set_cons_zero, List.set_cons_succ]; rfl) (by kernel_rfl) hK
                exact stepsD_nil
              obtain ⟨p10, g10, a10, n10, c10, E10, e10, zl10, ow10, bx10, hd10, sf10⟩ := putOut (hF 10 _ _ rfl rfl)
              have ce10 := bx10.cell
              have fr10 := bx10.frozen
              have zr10 := bx10.lt
              have nw10 := safeNew sf10 h0F (by simp)
              change ρ 20 = _ at e10
              have y0 := hF 0 _ _ rfl rfl
              change ρ 132 = _ at y0
              have y2 := hF 2 _ _ rfl rfl
              change ρ 134 = _ at y2
              have y5 := hF 5 _ _ rfl rfl
              change ρ 137 = _ at y5
              have y6 := hF 6 _ _ rfl rfl
              change ρ 138 = _ at y6
              simp only [mkA_cons, mkA_nil, List.setIfInBounds_toArray, List.set_cons_zero, List.set_cons_succ, e10, y0, y2, y5, y6]
              obtain ⟨QM, hQM⟩ : ∃ q, q = (Q1 + Q2) * T1 := ⟨_, rfl⟩
              rw [← hQM] at hd10 hlw
              have hM := hd10.mono (show -200 ≤ _ by decide) (show _ ≤ 200 by decide)
              have hSU := HSD.out.grew gV
              have X13 := B13.grew gV
              have u13 := X13.cell
              have y13 := X13.lt
              have gU0 : Grew U0 V := Grew.trans gw gV
              obtain ⟨ZZ, hZZ⟩ : ∃ ZZ, ZZ = sgE (QS.abs - QM) := ⟨_, rfl⟩
              have hZ0 : ZZ ≤ 0 := by
                rw [hZZ]
                unfold sgE
                split
                · decide
                · rename_i h0
                  rw [if_pos (by grind)]; decide
              have dZ : decide (0 < ZZ) = false := by simp; omega
              have hcm : ∀ V1 w', DV w' V1 QS.abs (-200) 200 → Grew V w' → Calls Try.prog 34 #[V1, .agg #[.bool g10, .slice a10 n10 c10, .int .i64 E10]] w' (fun e w2 => e = .returned (.int .i64 ZZ) ∧ ∃ o n, w2 = ext w' o n) := fun V1 w' a1 a2 => by
                rw [hZZ]; exact dcmp_any _ _ _ _ (-200) 200 w' a1 (hM.grew a2) (by decide) (by decide)
              have gU0' := gU0
              clear hF h0F sf10 nw10 ow10 B13 B14 B15 t13 t14 t15 r13' r14' r15' z13 z14 z15 hM hlw hQM HSD hc1 hc3 hI1 hI2 hd10 hZZ hZ0 X13 gU0 gw gw1
              go_wp2
              refine wp_region_R (Grew V) [] [(0,0), (0,2), (1,1), (1,3), (0,4)] (by kernel_rfl) (by kernel_rfl) (fun _ _ _ _ h _ => h) (by first | exact ⟨_, _, ext_drew⟩ | exact ⟨_, _, drew_ext0⟩ | (show Grew _ _; repeat (first | (with_reducible exact Grew.refl _) | (with_reducible assumption) | (with_reducible exact Grew.same_o) | (with_reducible exact Grew.app_o) | (with_reducible refine Grew.ext ?_ _ _) | (with_reducible refine Grew.alloc ?_ _) | ((with_reducible refine Grew.setCell ?_ ?_ _); rotate_left; (focus (dsimp only; first | omega | (simp only [size_ext, World.size_alloc, Array.size_append]; omega)))) | (with_reducible refine Grew.drewN ?_ _) | (with_reducible refine Grew.drew ?_)))) ?_
              go_wp2_with (first | ((with_reducible refine wpR_id ?_); first | (refine wpR_take (v := ?_) rfl rfl ?_ ?_; rotate_left; (focus (rintro w' ⟨o', n', rfl⟩; go_simp; try with_reducible rfl)); simp only [Act.put, List.setIfInBounds_toArray, List.set_cons_zero, List.set_cons_succ]) | (refine wpR_pure (v := ?_) rfl rfl ?_ ?_; rotate_left; (focus (intro w'; go_simp; try with_reducible rfl)); simp only [Act.put, List.setIfInBounds_toArray, List.set_cons_zero, List.set_cons_succ]) | (refine wpR_takeG (v := ?_) rfl rfl rfl rfl rfl ?_ ?_; rotate_left; (focus (rintro w' ⟨o', n', rfl⟩; go_simp; try with_reducible rfl)); simp only [Act.put, List.setIfInBounds_toArray, List.set_cons_zero, List.set_cons_succ]) | (refine wpR_skip rfl rfl rfl rfl rfl rfl ?_; simp only [Act.put, List.setIfInBounds_toArray, List.set_cons_zero, List.set_cons_succ]) | (refine wpR_skipU rfl rfl rfl rfl rfl ?_; simp only [Act.put, List.setIfInBounds_toArray, List.set_cons_zero, List.set_cons_succ]) | (refine wpR_do rfl rfl (fun K hK => ?_)) | (refine wpR_doG rfl rfl rfl rfl rfl (fun K hK => ?_)) | (refine wpR_last rfl rfl (fun K hK => ?_)) | (refine wpR_nil ?_)) | ((with_reducible refine wpR_go ?_ ?_); (focus (show Grew _ _; repeat (first | (with_reducible exact Grew.refl _) | (with_reducible assumption) | (with_reducible exact Grew.same_o) | (with_reducible exact Grew.app_o) | (with_reducible refine Grew.ext ?_ _ _) | (with_reducible refine Grew.alloc ?_ _) | ((with_reducible refine Grew.setCell ?_ ?_ _); rotate_left; (focus (dsimp only; first | omega | (simp only [size_ext, World.size_alloc, Array.size_append]; omega)))) | (with_reducible refine Grew.drewN ?_ _) | (with_reducible refine Grew.drew ?_))))) | ((with_reducible refine upon_id ?_); refine upon_fop rfl (by assumption) (by assumption) ?_; intro rr nn hr) | (go_at_call 30; ((with_reducible refine (dabs_any _ _ _ _ _ (hSU.grew (by (show Grew _ _; (try simp only [← Array.append_assoc]); repeat (first | (with_reducible exact Grew.same_o) | (with_reducible exact Grew.refl _) | (with_reducible assumption) | (with_reducible refine Grew.alloc ?_ _) | (with_reducible refine Grew.app_r ?_) | ((with_reducible refine Grew.setCell ?_ ?_ _); rotate_left; (focus (dsimp only; first | omega | (simp only [size_ext, World.size_alloc, Array.size_append]; omega)))) | (with_reducible refine Grew.ext ?_ _ _) | (with_reducible refine Grew.drewN ?_ _) | (with_reducible refine Grew.drew ?_)))))).mono ?_); rintro e w1 ⟨x3, rfl, hx3, hkx3, o3, m3, rfl⟩; (obtain ⟨x31, x32, x33, x34, x35, rfl⟩ := hx3.shape); (try simp only [drew_ext, drewN_ext, ext_ext] at hx3))) | (go_at_call 34; ((with_reducible refine (hcm _ _ (hx3.grew (by (show Grew _ _; (try simp only [← Array.append_assoc]); repeat (first | (with_reducible exact Grew.same_o) | (with_reducible exact Grew.refl _) | (with_reducible assumption) | (with_reducible refine Grew.alloc ?_ _) | (with_reducible refine Grew.app_r ?_) | ((with_reducible refine Grew.setCell ?_ ?_ _); rotate_left; (focus (dsimp only; first | omega | (simp only [size_ext, World.size_alloc, Array.size_append]; omega)))) | (with_reducible refine Grew.ext ?_ _ _) | (with_reducible refine Grew.drewN ?_ _) | (with_reducible refine Grew.drew ?_))))) (by (show Grew _ _; (try simp only [← Array.append_assoc]); repeat (first | (with_reducible exact Grew.same_o) | (with_reducible exact Grew.refl _) | (with_reducible assumption) | (with_reducible refine Grew.alloc ?_ _) | (with_reducible refine Grew.app_r ?_) | ((with_reducible refine Grew.setCell ?_ ?_ _); rotate_left; (focus (dsimp only; first | omega | (simp only [size_ext, World.size_alloc, Array.size_append]; omega)))) | (with_reducible refine Grew.ext ?_ _ _) | (with_reducible refine Grew.drewN ?_ _) | (with_reducible refine Grew.drew ?_))))).mono ?_); rintro e w1 ⟨rfl, o4, m4, rfl⟩)))
              go_roundw
              case rel => exact ⟨i + 1, hlt, by go_num, Grew.trans g2 (Grew.trans gU0' (by (show Grew _ _; (try simp only [← Array.append_assoc]); repeat (first | (with_reducible exact Grew.same_o) | (with_reducible exact Grew.refl _) | (with_reducible assumption) | (with_reducible refine Grew.alloc ?_ _) | (with_reducible refine Grew.app_r ?_) | ((with_reducible refine Grew.setCell ?_ ?_ _); rotate_left; (focus (dsimp only; first | omega | (simp only [size_ext, World.size_alloc, Array.size_append]; omega)))) | (with_reducible refine Grew.ext ?_ _ _) | (with_reducible refine Grew.drewN ?_ _) | (with_reducible refine Grew.drew ?_)))))⟩
              case measure => simp [intOf]; omega
        · have e : i = n := by omega
          subst e
          go_wp2_with (first | (go_at_call 78; ((with_reducible refine (awake09 _).mono ?_); rintro e w9 ⟨rfl, o9, n9, rfl⟩)))
          go_ret
          exact ⟨rfl, Grew.trans g1 (Grew.trans g2 (by (show Grew _ _; (try simp only [← Array.append_assoc]); repeat (first | (with_reducible exact Grew.same_o) | (with_reducible exact Grew.refl _) | (with_reducible assumption) | (with_reducible refine Grew.alloc ?_ _) | (with_reducible refine Grew.app_r ?_) | ((with_reducible refine Grew.setCell ?_ ?_ _); rotate_left; (focus (dsimp only; first | omega | (simp only [size_ext, World.size_alloc, Array.size_append]; omega)))) | (with_reducible refine Grew.ext ?_ _ _) | (with_reducible refine Grew.drewN ?_ _) | (with_reducible refine Grew.drew ?_)))))⟩
  · clear hx
    go_wp2_with (first | (go_at_call 78; ((with_reducible refine (awake09 _).mono ?_); rintro e w9 ⟨rfl, o9, n9, rfl⟩)))
    go_ret
    exact ⟨rfl, Grew.trans g1 (by (show Grew _ _; (try simp only [← Array.append_assoc]); repeat (first | (with_reducible exact Grew.same_o) | (with_reducible exact Grew.refl _) | (with_reducible assumption) | (with_reducible refine Grew.alloc ?_ _) | (with_reducible refine Grew.app_r ?_) | ((with_reducible refine Grew.setCell ?_ ?_ _); rotate_left; (focus (dsimp only; first | omega | (simp only [size_ext, World.size_alloc, Array.size_append]; omega)))) | (with_reducible refine Grew.ext ?_ _ _) | (with_reducible refine Grew.drewN ?_ _) | (with_reducible refine Grew.drew ?_))))⟩
end Go.Proofs.Ytcmggfpcbijcjaa
end
section
/-
  The walk of the law TrsvBackward (layer 9).
-/
set_option linter.unusedSimpArgs false
set_option linter.unusedVariables false
open Go Go.RowKit Sedge
namespace Go.Proofs.Ytcmggfpcbijcjaa
set_option maxRecDepth 100000 in
set_option maxHeartbeats 8000000 in
theorem trsvBackward_nat (u : Nat) (hu : u < 256) (VL VY : Value) (L Y : List Nat) (w : World) (hL : FS w VL L) (hY : FS w VY Y) :
    Calls Try.prog 11 #[.int .u8 u, VL, VY] w (fun e w' => e = .returned (.bool true) ∧ ∃ o n, w' = ext w o n) := by
  obtain ⟨aL, cL, rfl⟩ := hL.shape
  obtain ⟨aY, cY, rfl⟩ := hY.shape
  have fL : ∀ w', Grew w w' → Calls Try.prog 25 #[.slice aL L.length cL] w' (fun e w2 => e = .returned (.bool (finL L)) ∧ w' = w2) := fun w' g => finite_any _ L w' (hL.grew g)
  have fY : ∀ w', Grew w w' → Calls Try.prog 25 #[.slice aY Y.length cY] w' (fun e w2 => e = .returned (.bool (finL Y)) ∧ w' = w2) := fun w' g => finite_any _ Y w' (hY.grew g)
  obtain ⟨k, hk⟩ : ∃ k, k = 1 + u % 4 := ⟨_, rfl⟩
  have en : (1 + (u : Int) % 4) = (k : Int) := by omega
  have hk1 : 1 ≤ k := by omega
  have hk4 : k ≤ 4 := by omega
  have HL := hid hL
  have HY := hid hY
  have Hk := hid hk
  clear hL hY hk
  by_cases c1 : Y.length < 1
  · have d1 : decide ((Y.length : Int) < 1) = true := by simp; omega
    go_enter Try.func11, Try.ntmps11
    go_wp2_with (first | (go_at_call 78; ((with_reducible refine (awake09 _).mono ?_); rintro e w1 ⟨rfl, o1, n1, rfl⟩)) | (go_at_call 25; ((with_reducible refine (fL _ (by (show Grew _ _; (try simp only [← Array.append_assoc]); repeat (first | (with_reducible exact Grew.same_o) | (with_reducible exact Grew.refl _) | (with_reducible assumption) | (with_reducible refine Grew.alloc ?_ _) | (with_reducible refine Grew.app_r ?_) | ((with_reducible refine Grew.setCell ?_ ?_ _); rotate_left; (focus (dsimp only; first | omega | (simp only [size_ext, World.size_alloc, Array.size_append]; omega)))) | (with_reducible refine Grew.ext ?_ _ _) | (with_reducible refine Grew.drewN ?_ _) | (with_reducible refine Grew.drew ?_))))).mono ?_); rintro e w1 ⟨rfl, rfl⟩)) | (go_at_call 25; ((with_reducible refine (fY _ (by (show Grew _ _; (try simp only [← Array.append_assoc]); repeat (first | (with_reducible exact Grew.same_o) | (with_reducible exact Grew.refl _) | (with_reducible assumption) | (with_reducible refine Grew.alloc ?_ _) | (with_reducible refine Grew.app_r ?_) | ((with_reducible refine Grew.setCell ?_ ?_ _); rotate_left; (focus (dsimp only; first | omega | (simp only [size_ext, World.size_alloc, Array.size_append]; omega)))) | (with_reducible refine Grew.ext ?_ _ _) | (with_reducible refine Grew.drewN ?_ _) | (with_reducible refine Grew.drew ?_))))).mono ?_); rintro e w1 ⟨rfl, rfl⟩)))
    go_ret
    exact ⟨rfl, by (show Grew _ _; repeat (first | (with_reducible exact Grew.refl _) | (with_reducible assumption) | (with_reducible exact Grew.same_o) | (with_reducible exact Grew.app_o) | (with_reducible refine Grew.ext ?_ _ _) | (with_reducible refine Grew.alloc ?_ _) | ((with_reducible refine Grew.setCell ?_ ?_ _); rotate_left; (focus (dsimp only; first | omega | (simp only [size_ext, World.size_alloc, Array.size_append]; omega)))) | (with_reducible refine Grew.drewN ?_ _) | (with_reducible refine Grew.drew ?_)))⟩
  · have d1 : decide ((Y.length : Int) < 1) = false := by simp; omega
    by_cases c2 : 10 < Y.length
    · have d2 : decide ((10 : Int) < Y.length) = true := by simp; omega
      go_enter Try.func11, Try.ntmps11
      go_wp2_with (first | (go_at_call 78; ((with_reducible refine (awake09 _).mono ?_); rintro e w1 ⟨rfl, o1, n1, rfl⟩)) | (go_at_call 25; ((with_reducible refine (fL _ (by (show Grew _ _; (try simp only [← Array.append_assoc]); repeat (first | (with_reducible exact Grew.same_o) | (with_reducible exact Grew.refl _) | (with_reducible assumption) | (with_reducible refine Grew.alloc ?_ _) | (with_reducible refine Grew.app_r ?_) | ((with_reducible refine Grew.setCell ?_ ?_ _); rotate_left; (focus (dsimp only; first | omega | (simp only [size_ext, World.size_alloc, Array.size_append]; omega)))) | (with_reducible refine Grew.ext ?_ _ _) | (with_reducible refine Grew.drewN ?_ _) | (with_reducible refine Grew.drew ?_))))).mono ?_); rintro e w1 ⟨rfl, rfl⟩)) | (go_at_call 25; ((with_reducible refine (fY _ (by (show Grew _ _; (try simp only [← Array.append_assoc]); repeat (first | (with_reducible exact Grew.same_o) | (with_reducible exact Grew.refl _) | (with_reducible assumption) | (with_reducible refine Grew.alloc ?_ _) | (with_reducible refine Grew.app_r ?_) | ((with_reducible refine Grew.setCell ?_ ?_ _); rotate_left; (focus (dsimp only; first | omega | (simp only [size_ext, World.size_alloc, Array.size_append]; omega)))) | (with_reducible refine Grew.ext ?_ _ _) | (with_reducible refine Grew.drewN ?_ _) | (with_reducible refine Grew.drew ?_))))).mono ?_); rintro e w1 ⟨rfl, rfl⟩)))
      go_ret
      exact ⟨rfl, by (show Grew _ _; repeat (first | (with_reducible exact Grew.refl _) | (with_reducible assumption) | (with_reducible exact Grew.same_o) | (with_reducible exact Grew.app_o) | (with_reducible refine Grew.ext ?_ _ _) | (with_reducible refine Grew.alloc ?_ _) | ((with_reducible refine Grew.setCell ?_ ?_ _); rotate_left; (focus (dsimp only; first | omega | (simp only [size_ext, World.size_alloc, Array.size_append]; omega)))) | (with_reducible refine Grew.drewN ?_ _) | (with_reducible refine Grew.drew ?_)))⟩
    · have d2 : decide ((10 : Int) < Y.length) = false := by simp; omega
      by_cases c5 : 200 < L.length
      · have d5 : decide ((200 : Int) < L.length) = true := by simp; omega
        go_enter Try.func11, Try.ntmps11
        go_wp2_with (first | (go_at_call 78; ((with_reducible refine (awake09 _).mono ?_); rintro e w1 ⟨rfl, o1, n1, rfl⟩)) | (go_at_call 25; ((with_reducible refine (fL _ (by (show Grew _ _; (try simp only [← Array.append_assoc]); repeat (first | (with_reducible exact Grew.same_o) | (with_reducible exact Grew.refl _) | (with_reducible assumption) | (with_reducible refine Grew.alloc ?_ _) | (with_reducible refine Grew.app_r ?_) | ((with_reducible refine Grew.setCell ?_ ?_ _); rotate_left; (focus (dsimp only; first | omega | (simp only [size_ext, World.size_alloc, Array.size_append]; omega)))) | (with_reducible refine Grew.ext ?_ _ _) | (with_reducible refine Grew.drewN ?_ _) | (with_reducible refine Grew.drew ?_))))).mono ?_); rintro e w1 ⟨rfl, rfl⟩)) | (go_at_call 25; ((with_reducible refine (fY _ (by (show Grew _ _; (try simp only [← Array.append_assoc]); repeat (first | (with_reducible exact Grew.same_o) | (with_reducible exact Grew.refl _) | (with_reducible assumption) | (with_reducible refine Grew.alloc ?_ _) | (with_reducible refine Grew.app_r ?_) | ((with_reducible refine Grew.setCell ?_ ?_ _); rotate_left; (focus (dsimp only; first | omega | (simp only [size_ext, World.size_alloc, Array.size_append]; omega)))) | (with_reducible refine Grew.ext ?_ _ _) | (with_reducible refine Grew.drewN ?_ _) | (with_reducible refine Grew.drew ?_))))).mono ?_); rintro e w1 ⟨rfl, rfl⟩)))
        go_ret
        exact ⟨rfl, by (show Grew _ _; repeat (first | (with_reducible exact Grew.refl _) | (with_reducible assumption) | (with_reducible exact Grew.same_o) | (with_reducible exact Grew.app_o) | (with_reducible refine Grew.ext ?_ _ _) | (with_reducible refine Grew.alloc ?_ _) | ((with_reducible refine Grew.setCell ?_ ?_ _); rotate_left; (focus (dsimp only; first | omega | (simp only [size_ext, World.size_alloc, Array.size_append]; omega)))) | (with_reducible refine Grew.drewN ?_ _) | (with_reducible refine Grew.drew ?_)))⟩
      · have d5 : decide ((200 : Int) < L.length) = false := by simp; omega
        cases h1 : finL L
        · rw [h1] at fL
          go_enter Try.func11, Try.ntmps11
          go_wp2_with (first | (go_at_call 78; ((with_reducible refine (awake09 _).mono ?_); rintro e w1 ⟨rfl, o1, n1, rfl⟩)) | (go_at_call 25; ((with_reducible refine (fL _ (by (show Grew _ _; (try simp only [← Array.append_assoc]); repeat (first | (with_reducible exact Grew.same_o) | (with_reducible exact Grew.refl _) | (with_reducible assumption) | (with_reducible refine Grew.alloc ?_ _) | (with_reducible refine Grew.app_r ?_) | ((with_reducible refine Grew.setCell ?_ ?_ _); rotate_left; (focus (dsimp only; first | omega | (simp only [size_ext, World.size_alloc, Array.size_append]; omega)))) | (with_reducible refine Grew.ext ?_ _ _) | (with_reducible refine Grew.drewN ?_ _) | (with_reducible refine Grew.drew ?_))))).mono ?_); rintro e w1 ⟨rfl, rfl⟩)) | (go_at_call 25; ((with_reducible refine (fY _ (by (show Grew _ _; (try simp only [← Array.append_assoc]); repeat (first | (with_reducible exact Grew.same_o) | (with_reducible exact Grew.refl _) | (with_reducible assumption) | (with_reducible refine Grew.alloc ?_ _) | (with_reducible refine Grew.app_r ?_) | ((with_reducible refine Grew.setCell ?_ ?_ _); rotate_left; (focus (dsimp only; first | omega | (simp only [size_ext, World.size_alloc, Array.size_append]; omega)))) | (with_reducible refine Grew.ext ?_ _ _) | (with_reducible refine Grew.drewN ?_ _) | (with_reducible refine Grew.drew ?_))))).mono ?_); rintro e w1 ⟨rfl, rfl⟩)))
          go_ret
          exact ⟨rfl, by (show Grew _ _; repeat (first | (with_reducible exact Grew.refl _) | (with_reducible assumption) | (with_reducible exact Grew.same_o) | (with_reducible exact Grew.app_o) | (with_reducible refine Grew.ext ?_ _ _) | (with_reducible refine Grew.alloc ?_ _) | ((with_reducible refine Grew.setCell ?_ ?_ _); rotate_left; (focus (dsimp only; first | omega | (simp only [size_ext, World.size_alloc, Array.size_append]; omega)))) | (with_reducible refine Grew.drewN ?_ _) | (with_reducible refine Grew.drew ?_)))⟩
        · rw [h1] at fL
          cases h3 : finL Y
          · rw [h3] at fY
            go_enter Try.func11, Try.ntmps11
            go_wp2_with (first | (go_at_call 78; ((with_reducible refine (awake09 _).mono ?_); rintro e w1 ⟨rfl, o1, n1, rfl⟩)) | (go_at_call 25; ((with_reducible refine (fL _ (by (show Grew _ _; (try simp only [← Array.append_assoc]); repeat (first | (with_reducible exact Grew.same_o) | (with_reducible exact Grew.refl _) | (with_reducible assumption) | (with_reducible refine Grew.alloc ?_ _) | (with_reducible refine Grew.app_r ?_) | ((with_reducible refine Grew.setCell ?_ ?_ _); rotate_left; (focus (dsimp only; first | omega | (simp only [size_ext, World.size_alloc, Array.size_append]; omega)))) | (with_reducible refine Grew.ext ?_ _ _) | (with_reducible refine Grew.drewN ?_ _) | (with_reducible refine Grew.drew ?_))))).mono ?_); rintro e w1 ⟨rfl, rfl⟩)) | (go_at_call 25; ((with_reducible refine (fY _ (by (show Grew _ _; (try simp only [← Array.append_assoc]); repeat (first | (with_reducible exact Grew.same_o) | (with_reducible exact Grew.refl _) | (with_reducible assumption) | (with_reducible refine Grew.alloc ?_ _) | (with_reducible refine Grew.app_r ?_) | ((with_reducible refine Grew.setCell ?_ ?_ _); rotate_left; (focus (dsimp only; first | omega | (simp only [size_ext, World.size_alloc, Array.size_append]; omega)))) | (with_reducible refine Grew.ext ?_ _ _) | (with_reducible refine Grew.drewN ?_ _) | (with_reducible refine Grew.drew ?_))))).mono ?_); rintro e w1 ⟨rfl, rfl⟩)))
            go_ret
            exact ⟨rfl, by (show Grew _ _; repeat (first | (with_reducible exact Grew.refl _) | (with_reducible assumption) | (with_reducible exact Grew.same_o) | (with_reducible exact Grew.app_o) | (with_reducible refine Grew.ext ?_ _ _) | (with_reducible refine Grew.alloc ?_ _) | ((with_reducible refine Grew.setCell ?_ ?_ _); rotate_left; (focus (dsimp only; first | omega | (simp only [size_ext, World.size_alloc, Array.size_append]; omega)))) | (with_reducible refine Grew.drewN ?_ _) | (with_reducible refine Grew.drew ?_)))⟩
          · exact trb_main aL aY cL cY L.length Y.length k L Y u hu en w HL.out HY.out c1 c2 c5 h1 h3
theorem trsvBackward_any (z : Int) (VL : Value) (L : List Nat) (VY : Value) (Y : List Nat) (w : World) (hz : 0 ≤ z ∧ z ≤ 255) (hL : FS w VL L) (hY : FS w VY Y) :
    Calls Try.prog 11 #[.int .u8 z, VL, VY] w (fun e w' => e = .returned (.bool true) ∧ ∃ o n, w' = ext w o n) := by
  obtain ⟨u, rfl⟩ : ∃ u : Nat, z = u := ⟨z.toNat, by omega⟩
  exact trsvBackward_nat u (by omega) VL VY L Y w hL hY
end Go.Proofs.Ytcmggfpcbijcjaa
end
section
/-
  The dump's head as a list of signs, laid by their numbers: the kernel reckons on such a list, not on the text.
-/
set_option linter.unusedSimpArgs false
set_option linter.unusedVariables false
namespace Go.Proofs.Ytcmggfpcbijcjaa
theorem may_cut {P : Program} {c : List Char} {rest : List (List Char)} (h : behindMainWord (wordsSigns P.initOrder.toList) = c :: rest) (hs : stripLifts liftWords (c :: rest) = ([], c :: rest))
    (hc : (c == "cut".toList) = true) (hl : P.laysLater = false) (hr : P.bearsReflect = false) (hd : P.doorFits [] = true) : P.mayEnter = true := by
  have hc' : c = "cut".toList := by simpa using hc
  unfold Program.mayEnter
  rw [h]
  simp only [hs, hl, hr, hd, List.head?_cons, List.contains_nil, Bool.false_or, Bool.not_false, Bool.and_true, Bool.or_true]
  rw [hc']
  simp
theorem final_cut {P : Program} {c : List Char} {rest : List (List Char)} (h : behindMainWord (wordsSigns P.initOrder.toList) = c :: rest) (hs : stripLifts liftWords (c :: rest) = ([], c :: rest))
    (hc : (c == "carried".toList) = false) : P.liftsFinal = false := by
  unfold Program.liftsFinal Program.headLifts
  simp only [h, hs, List.head?_cons, List.contains_nil, ite_self, Bool.or_false]
  have : (some c == some "carried".toList) = false := by simpa using hc
  rw [this]
  rfl
theorem make_cut {P : Program} {c : List Char} {rest : List (List Char)} (h : behindMainWord (wordsSigns P.initOrder.toList) = c :: rest)
    (h1 : (c == "gc".toList || c == "spec".toList) = false) (h2 : (c == "cut".toList) = true) : P.make = some .cut := by
  unfold Program.make
  rw [h]
  simp only [h1, h2, Bool.true_or, Bool.false_eq_true, if_false, if_true]
def headCodes : List Nat := [
  104, 97, 114, 110, 101, 115, 115, 32, 51, 102, 52, 100, 97, 51, 56, 49, 53, 101, 98, 97, 49, 97, 55, 99, 97, 51, 97, 53, 57, 98, 51, 57, 53, 55, 97, 97, 53, 56, 102, 57,
  54, 102, 100, 51, 48, 56, 99, 48, 99, 51, 57, 99, 54, 57, 56, 51, 57, 48, 54, 97, 99, 49, 97, 102, 48, 98, 102, 98, 49, 100, 49, 54, 32, 99, 117, 116, 32, 97, 116, 32,
  115, 116, 114, 97, 105, 103, 104, 116, 101, 100, 103, 101, 47, 115, 116, 114, 97, 105, 103, 104, 116, 101, 100, 103, 101, 108, 97, 119, 48, 54, 46, 65, 120, 101, 115, 67, 108, 111, 115, 101,
  32, 115, 116, 114, 97, 105, 103, 104, 116, 101, 100, 103, 101, 47, 115, 116, 114, 97, 105, 103, 104, 116, 101, 100, 103, 101, 108, 97, 119, 48, 53, 46, 83, 117, 109, 115, 76, 105, 115, 116,
  115, 32, 115, 116, 114, 97, 105, 103, 104, 116, 101, 100, 103, 101, 47, 115, 116, 114, 97, 105, 103, 104, 116, 101, 100, 103, 101, 108, 97, 119, 48, 52, 46, 77, 111, 118, 101, 82, 111, 119,
  115, 32, 115, 116, 114, 97, 105, 103, 104, 116, 101, 100, 103, 101, 47, 115, 116, 114, 97, 105, 103, 104, 116, 101, 100, 103, 101, 108, 97, 119, 48, 56, 46, 71, 101, 114, 84, 101, 108, 108,
  115, 32, 115, 116, 114, 97, 105, 103, 104, 116, 101, 100, 103, 101, 47, 115, 116, 114, 97, 105, 103, 104, 116, 101, 100, 103, 101, 108, 97, 119, 48, 52, 46, 77, 111, 118, 101, 86, 101, 99,
  116, 111, 114, 115, 32, 115, 116, 114, 97, 105, 103, 104, 116, 101, 100, 103, 101, 47, 115, 116, 114, 97, 105, 103, 104, 116, 101, 100, 103, 101, 108, 97, 119, 48, 55, 46, 71, 101, 109, 118,
  67, 108, 111, 115, 101, 32, 115, 116, 114, 97, 105, 103, 104, 116, 101, 100, 103, 101, 47, 115, 116, 114, 97, 105, 103, 104, 116, 101, 100, 103, 101, 108, 97, 119, 49, 49, 46, 71, 101, 109,
  109, 84, 101, 108, 108, 115, 32, 115, 116, 114, 97, 105, 103, 104, 116, 101, 100, 103, 101, 47, 115, 116, 114, 97, 105, 103, 104, 116, 101, 100, 103, 101, 108, 97, 119, 48, 57, 46, 84, 114,
  115, 118, 83, 111, 108, 118, 101, 115, 32, 115, 116, 114, 97, 105, 103, 104, 116, 101, 100, 103, 101, 47, 115, 116, 114, 97, 105, 103, 104, 116, 101, 100, 103, 101, 108, 97, 119, 48, 57, 46,
  84, 114, 115, 118, 66, 97, 99, 107, 119, 97, 114, 100, 32, 115, 116, 114, 97, 105, 103, 104, 116, 101, 100, 103, 101, 47, 115, 116, 114, 97, 105, 103, 104, 116, 101, 100, 103, 101, 108, 97,
  119, 48, 55, 46, 71, 101, 109, 118, 84, 117, 114, 110, 115, 32, 115, 116, 114, 97, 105, 103, 104, 116, 101, 100, 103, 101, 47, 115, 116, 114, 97, 105, 103, 104, 116, 101, 100, 103, 101, 108,
  97, 119, 48, 54, 46, 65, 120, 101, 115, 66, 97, 99, 107, 32, 115, 116, 114, 97, 105, 103, 104, 116, 101, 100, 103, 101, 47, 115, 116, 114, 97, 105, 103, 104, 116, 101, 100, 103, 101, 108,
  97, 119, 49, 49, 46, 71, 101, 109, 109, 87, 104, 111, 108, 101, 32, 115, 116, 114, 97, 105, 103, 104, 116, 101, 100, 103, 101, 47, 115, 116, 114, 97, 105, 103, 104, 116, 101, 100, 103, 101,
  108, 97, 119, 50, 50, 46, 82, 101, 115, 105, 100, 66, 111, 117, 110, 100, 115, 32, 115, 116, 114, 97, 105, 103, 104, 116, 101, 100, 103, 101, 47, 115, 116, 114, 97, 105, 103, 104, 116, 101,
  100, 103, 101, 108, 97, 119, 50, 50, 46, 82, 101, 115, 105, 100, 82, 101, 115, 116, 32, 115, 116, 114, 97, 105, 103, 104, 116, 101, 100, 103, 101, 47, 115, 116, 114, 97, 105, 103, 104, 116,
  101, 100, 103, 101, 108, 97, 119, 48, 54, 46, 65, 120, 101, 115, 83, 99, 97, 108, 101, 32, 115, 116, 114, 97, 105, 103, 104, 116, 101, 100, 103, 101, 47, 115, 116, 114, 97, 105, 103, 104,
  116, 101, 100, 103, 101, 108, 97, 119, 49, 53, 46, 69, 113, 117, 105, 108, 70, 97, 99, 116, 111, 114, 115, 32, 115, 116, 114, 97, 105, 103, 104, 116, 101, 100, 103, 101, 47, 115, 116, 114,
  97, 105, 103, 104, 116, 101, 100, 103, 101, 108, 97, 119, 50, 50, 46, 82, 101, 115, 105, 100, 84, 101, 108, 108, 115, 32, 115, 116, 114, 97, 105, 103, 104, 116, 101, 100, 103, 101, 47, 115,
  116, 114, 97, 105, 103, 104, 116, 101, 100, 103, 101, 108, 97, 119, 50, 50, 46, 82, 101, 115, 105, 100, 66, 97, 99, 107, 119, 97, 114, 100, 32, 115, 116, 114, 97, 105, 103, 104, 116, 101,
  100, 103, 101, 47, 115, 116, 114, 97, 105, 103, 104, 116, 101, 100, 103, 101, 108, 97, 119, 49, 53, 46, 69, 113, 117, 105, 108, 76, 105, 107, 101, 32, 115, 116, 114, 97, 105, 103, 104, 116,
  101, 100, 103, 101, 47, 115, 116, 114, 97, 105, 103, 104, 116, 101, 100, 103, 101, 108, 97, 119, 49, 53, 46, 69, 113, 117, 105, 108, 83, 99, 97, 108, 101, 115, 32, 115, 116, 114, 97, 105,
  103, 104, 116, 101, 100, 103, 101, 47, 115, 116, 114, 97, 105, 103, 104, 116, 101, 100, 103, 101, 108, 97, 119, 50, 48, 46, 76, 97, 99, 110, 66, 101, 108, 111, 119]
def headWords : List (List Nat) := [
  [104, 97, 114, 110, 101, 115, 115],
  [51, 102, 52, 100, 97, 51, 56, 49, 53, 101, 98, 97, 49, 97, 55, 99, 97, 51, 97, 53, 57, 98, 51, 57, 53, 55, 97, 97, 53, 56, 102, 57, 54, 102, 100, 51, 48, 56, 99, 48, 99, 51, 57, 99, 54, 57, 56, 51, 57, 48, 54, 97, 99, 49, 97, 102, 48, 98, 102, 98, 49, 100, 49, 54],
  [99, 117, 116],
  [97, 116],
  [115, 116, 114, 97, 105, 103, 104, 116, 101, 100, 103, 101, 47, 115, 116, 114, 97, 105, 103, 104, 116, 101, 100, 103, 101, 108, 97, 119, 48, 54, 46, 65, 120, 101, 115, 67, 108, 111, 115, 101],
  [115, 116, 114, 97, 105, 103, 104, 116, 101, 100, 103, 101, 47, 115, 116, 114, 97, 105, 103, 104, 116, 101, 100, 103, 101, 108, 97, 119, 48, 53, 46, 83, 117, 109, 115, 76, 105, 115, 116, 115],
  [115, 116, 114, 97, 105, 103, 104, 116, 101, 100, 103, 101, 47, 115, 116, 114, 97, 105, 103, 104, 116, 101, 100, 103, 101, 108, 97, 119, 48, 52, 46, 77, 111, 118, 101, 82, 111, 119, 115],
  [115, 116, 114, 97, 105, 103, 104, 116, 101, 100, 103, 101, 47, 115, 116, 114, 97, 105, 103, 104, 116, 101, 100, 103, 101, 108, 97, 119, 48, 56, 46, 71, 101, 114, 84, 101, 108, 108, 115],
  [115, 116, 114, 97, 105, 103, 104, 116, 101, 100, 103, 101, 47, 115, 116, 114, 97, 105, 103, 104, 116, 101, 100, 103, 101, 108, 97, 119, 48, 52, 46, 77, 111, 118, 101, 86, 101, 99, 116, 111, 114, 115],
  [115, 116, 114, 97, 105, 103, 104, 116, 101, 100, 103, 101, 47, 115, 116, 114, 97, 105, 103, 104, 116, 101, 100, 103, 101, 108, 97, 119, 48, 55, 46, 71, 101, 109, 118, 67, 108, 111, 115, 101],
  [115, 116, 114, 97, 105, 103, 104, 116, 101, 100, 103, 101, 47, 115, 116, 114, 97, 105, 103, 104, 116, 101, 100, 103, 101, 108, 97, 119, 49, 49, 46, 71, 101, 109, 109, 84, 101, 108, 108, 115],
  [115, 116, 114, 97, 105, 103, 104, 116, 101, 100, 103, 101, 47, 115, 116, 114, 97, 105, 103, 104, 116, 101, 100, 103, 101, 108, 97, 119, 48, 57, 46, 84, 114, 115, 118, 83, 111, 108, 118, 101, 115],
  [115, 116, 114, 97, 105, 103, 104, 116, 101, 100, 103, 101, 47, 115, 116, 114, 97, 105, 103, 104, 116, 101, 100, 103, 101, 108, 97, 119, 48, 57, 46, 84, 114, 115, 118, 66, 97, 99, 107, 119, 97, 114, 100],
  [115, 116, 114, 97, 105, 103, 104, 116, 101, 100, 103, 101, 47, 115, 116, 114, 97, 105, 103, 104, 116, 101, 100, 103, 101, 108, 97, 119, 48, 55, 46, 71, 101, 109, 118, 84, 117, 114, 110, 115],
  [115, 116, 114, 97, 105, 103, 104, 116, 101, 100, 103, 101, 47, 115, 116, 114, 97, 105, 103, 104, 116, 101, 100, 103, 101, 108, 97, 119, 48, 54, 46, 65, 120, 101, 115, 66, 97, 99, 107],
  [115, 116, 114, 97, 105, 103, 104, 116, 101, 100, 103, 101, 47, 115, 116, 114, 97, 105, 103, 104, 116, 101, 100, 103, 101, 108, 97, 119, 49, 49, 46, 71, 101, 109, 109, 87, 104, 111, 108, 101],
  [115, 116, 114, 97, 105, 103, 104, 116, 101, 100, 103, 101, 47, 115, 116, 114, 97, 105, 103, 104, 116, 101, 100, 103, 101, 108, 97, 119, 50, 50, 46, 82, 101, 115, 105, 100, 66, 111, 117, 110, 100, 115],
  [115, 116, 114, 97, 105, 103, 104, 116, 101, 100, 103, 101, 47, 115, 116, 114, 97, 105, 103, 104, 116, 101, 100, 103, 101, 108, 97, 119, 50, 50, 46, 82, 101, 115, 105, 100, 82, 101, 115, 116],
  [115, 116, 114, 97, 105, 103, 104, 116, 101, 100, 103, 101, 47, 115, 116, 114, 97, 105, 103, 104, 116, 101, 100, 103, 101, 108, 97, 119, 48, 54, 46, 65, 120, 101, 115, 83, 99, 97, 108, 101],
  [115, 116, 114, 97, 105, 103, 104, 116, 101, 100, 103, 101, 47, 115, 116, 114, 97, 105, 103, 104, 116, 101, 100, 103, 101, 108, 97, 119, 49, 53, 46, 69, 113, 117, 105, 108, 70, 97, 99, 116, 111, 114, 115],
  [115, 116, 114, 97, 105, 103, 104, 116, 101, 100, 103, 101, 47, 115, 116, 114, 97, 105, 103, 104, 116, 101, 100, 103, 101, 108, 97, 119, 50, 50, 46, 82, 101, 115, 105, 100, 84, 101, 108, 108, 115],
  [115, 116, 114, 97, 105, 103, 104, 116, 101, 100, 103, 101, 47, 115, 116, 114, 97, 105, 103, 104, 116, 101, 100, 103, 101, 108, 97, 119, 50, 50, 46, 82, 101, 115, 105, 100, 66, 97, 99, 107, 119, 97, 114, 100],
  [115, 116, 114, 97, 105, 103, 104, 116, 101, 100, 103, 101, 47, 115, 116, 114, 97, 105, 103, 104, 116, 101, 100, 103, 101, 108, 97, 119, 49, 53, 46, 69, 113, 117, 105, 108, 76, 105, 107, 101],
  [115, 116, 114, 97, 105, 103, 104, 116, 101, 100, 103, 101, 47, 115, 116, 114, 97, 105, 103, 104, 116, 101, 100, 103, 101, 108, 97, 119, 49, 53, 46, 69, 113, 117, 105, 108, 83, 99, 97, 108, 101, 115],
  [115, 116, 114, 97, 105, 103, 104, 116, 101, 100, 103, 101, 47, 115, 116, 114, 97, 105, 103, 104, 116, 101, 100, 103, 101, 108, 97, 119, 50, 48, 46, 76, 97, 99, 110, 66, 101, 108, 111, 119]]
def W : List (List Char) := headWords.map (·.map Char.ofNat)
theorem head_eq : Try.prog.initOrder = String.ofList (headCodes.map Char.ofNat) := by kernel_rfl
theorem head_list : Try.prog.initOrder.toList = headCodes.map Char.ofNat := by rw [head_eq, String.toList_ofList]
theorem head_words : wordsSigns (headCodes.map Char.ofNat) = W := by kernel_rfl
def cutWord : List Char := W.getD 2 []
def restWords : List (List Char) := W.drop 3
theorem head_split : behindMainWord W = cutWord :: restWords := by kernel_rfl
theorem head_behind : behindMainWord (wordsSigns Try.prog.initOrder.toList) = cutWord :: restWords := by rw [head_list, head_words]; exact head_split
theorem head_strip : stripLifts liftWords (cutWord :: restWords) = ([], cutWord :: restWords) := by kernel_rfl
theorem head_final : Try.prog.liftsFinal = false := final_cut head_behind head_strip (by kernel_rfl)
theorem head_make : Try.prog.make = some .cut := make_cut head_behind (by kernel_rfl) (by kernel_rfl)
theorem head_may : Try.prog.mayEnter = true := may_cut head_behind head_strip (by kernel_rfl) (by kernel_rfl) (by kernel_rfl) (by kernel_rfl)
end Go.Proofs.Ytcmggfpcbijcjaa
end
