/-
  Texts laid one behind the other (a claim has at most 60 files): LawGcl2, LawGcl, Head.
-/
import Derived.Test.YtcmggfpcbijcjaaRows
import Derived.ProofKit
import Derived.Test.YtcmggfpcbijcjaaQGemvClose1
import Derived.Test.YtcmggfpcbijcjaaQGemvClose2
import Derived.Test.YtcmggfpcbijcjaaQGemvClose3
import Derived.Test.YtcmggfpcbijcjaaQGemvClose4
import Derived.Test.YtcmggfpcbijcjaaQGemvClose5
import Derived.Test.YtcmggfpcbijcjaaQGemvClose6
import Derived.Test.YtcmggfpcbijcjaaQGemvClose7
import Derived.Test.YtcmggfpcbijcjaaQGemvClose8
import Derived.Test.YtcmggfpcbijcjaaQGemvClose9
section
/-
  The walk of the law GemvClose (layer 7): where all is well.
-/
set_option linter.unusedSimpArgs false
set_option linter.unusedVariables false
open Go Go.RowKit Sedge
namespace Go.Proofs.Ytcmggfpcbijcjaa
/-- The products of row i. -/
def prG (C : Nat) (ws X : List Nat) (i : Nat) (j : Nat) : Rat := val (ws.getD (i * C + j) 0) * val (X.getD j 0)
theorem gclFS_lt {w : World} {v : Value} {ws : List Nat} (h : FS w v ws) (i : Nat) : ws.getD i 0 < 2 ^ 64 := by
  by_cases hi : i < ws.length
  · obtain ⟨_, a, cap, rfl, _, hc⟩ := h
    obtain ⟨blk, o, b, _, _, hf⟩ := hc i hi
    exact hf.lt
  · rw [List.getD_eq_getElem?_getD, List.getElem?_eq_none (by omega)]; decide
set_option maxRecDepth 100000 in
set_option maxHeartbeats 8000000 in
theorem gcl_main (aL aX aY : Option Addr) (cL cX cY lL lX lY n : Nat) (L X Y : List Nat) (u : Nat) (hu : u < 256) (en : (1 + (u : Int) % 12) = (n : Int)) (w : World) (hL : FS w (.slice aL lL cL) L) (hX : FS w (.slice aX lX cX) X) (hY : FS w (.slice aY lY cY) Y)
    (c1 : ¬ lX < n) (c2 : ¬ lY = 0) (c3 : ¬ 12 < lY) (c4 : ¬ 60 < lX) (c5 : ¬ 200 < lL) (h1 : finL L = true) (h2 : finL X = true) (h3 : finL Y = true) :
    Calls Try.prog 8 #[.slice aL lL cL, .slice aX lX cX, .slice aY lY cY, .int .u8 u] w (fun e w' => e = .returned (.bool true) ∧ ∃ o n, w' = ext w o n) := by
  obtain ⟨bx, ox, rfl, kbx, hXc⟩ := hX.at.2 (by have := hX.at.1; omega)
  obtain ⟨blY, oy, rfl, kby, hYc⟩ := hY.at.2 (by have := hY.at.1; omega)
  have eL := hL.at.1
  have eX := hX.at.1
  have eY := hY.at.1
  have fL : ∀ w', Grew w w' → Calls Try.prog 25 #[.slice aL lL cL] w' (fun e w2 => e = .returned (.bool true) ∧ w' = w2) := fun w' g => by have := finite_any _ L w' (hL.grew g); rw [h1] at this; exact this
  have fX : ∀ w', Grew w w' → Calls Try.prog 25 #[.slice (some ⟨bx, ox, none⟩) lX cX] w' (fun e w2 => e = .returned (.bool true) ∧ w' = w2) := fun w' g => by have := finite_any _ X w' (hX.grew g); rw [h2] at this; exact this
  have fY : ∀ w', Grew w w' → Calls Try.prog 25 #[.slice (some ⟨blY, oy, none⟩) lY cY] w' (fun e w2 => e = .returned (.bool true) ∧ w' = w2) := fun w' g => by have := finite_any _ Y w' (hY.grew g); rw [h3] at this; exact this
  have d1 : decide ((lX : Int) < (n : Int)) = false := by simpa using c1
  have d1' : decide (lX < n) = false := by simpa using c1
  have d2 : ((lY : Int) == 0) = false := by simpa using c2
  have d3 : decide ((12 : Int) < lY) = false := by simp; omega
  have d4 : decide ((60 : Int) < lX) = false := by simp; omega
  have d5 : decide ((200 : Int) < lL) = false := by simp; omega
  have nn1 : 1 ≤ n := by omega
  have n12 : n ≤ 12 := by omega
  have HL := hid hL
  have HX := hid hX
  have HY := hid hY
  have EL := hid eL
  have EX := hid eX
  have EY := hid eY
  have Ln := hid h1
  have Xn := hid h2
  have Yn := hid h3
  have hcp : ∀ w', Grew w w' → Calls Try.prog 70 #[.slice (some ⟨blY, oy, none⟩) lY cY] w' (fun e w2 => ∃ v, e = .returned v ∧ WS w2 w'.heap.size v Y ∧ ∃ o n, w2 = ext w' o n) := fun w' g => copy1_any _ Y w' (HY.out.grew g) (by omega)
  have hnw : ∀ w', Calls Try.prog 68 #[.int .i64 lY, .int .i64 n] w' (fun e w2 => ∃ k, e = .returned (.agg #[.int .i64 lY, .int .i64 n, .slice (some ⟨k, 0, none⟩) (lY * n) (lY * n)]) ∧ w'.heap.size ≤ k ∧ FW w2 k (List.replicate (lY * n) 0) ∧ ∃ o n, w2 = ext w' o n) := fun w' => rnewc_any lY n w' (by omega) (by omega)
  obtain ⟨T0, hT0⟩ : ∃ T0, T0 = List.replicate (lY * n) 0 := ⟨_, rfl⟩
  rw [← hT0] at hnw
  have lT0 : T0.length = lY * n := by rw [hT0, List.length_replicate]
  obtain ⟨TT, hTT⟩ : ∃ TT, TT = cpl T0 L := ⟨_, rfl⟩
  have lTT : TT.length = lY * n := by rw [hTT, cpl_length, lT0]
  obtain ⟨DD, hDD⟩ : ∃ DD, DD = denseL lY n TT := ⟨_, rfl⟩
  have lDD : DD.length = lY * n := by rw [hDD, denseL_length]
  have hm12 : lY * n ≤ 12 * 12 := Nat.mul_le_mul (by omega) (by omega)
  have hde : ∀ w' g, FW w' g TT → Calls Try.prog 69 #[.int .i64 lY, .int .i64 n, .slice (some ⟨g, 0, none⟩) (lY * n) (lY * n)] w' (fun e w2 => ∃ k c, e = .returned (.agg #[.slice (some ⟨k, 0, none⟩) (lY * n) c, .int .i64 0, .int .i64 lY, .int .i64 n, .int .i64 lY]) ∧ w'.heap.size ≤ k ∧ FW w2 k DD ∧ ∃ o n, w2 = ext w' o n) := fun w' g hg => by
    have h := hg.fs (by omega) (lY * n)
    rw [lTT] at h
    have h2 := dense_any lY n (some ⟨g, 0, none⟩) TT w' (by rw [lTT]; exact h) (by omega) (by omega) (by omega) (by omega) lTT
    rw [lTT] at h2
    refine h2.mono fun e w2 hh => ?_
    obtain ⟨v, rfl, ⟨k, c, rfl, q1, q2, _⟩, q3⟩ := hh
    rw [denseL_length]
    exact ⟨k, c, rfl, q1, by rw [hDD]; exact q2, q3⟩
  have c1' : n ≤ lX := by omega
  have c2' : 1 ≤ lY := by omega
  have c3' : lY ≤ 12 := by omega
  have c4' : lX ≤ 60 := by omega
  have HXc := hid hXc
  have HYc := hid hYc
  clear hL hX hY eL eX eY h1 h2 h3 c1 c2 c3 c4 c5 hXc hYc
  go_enter Try.func8, Try.ntmps8
  go_upto_region 6 with (first | (go_at_call 67; ((with_reducible refine (awake07 _).mono ?_); rintro e w1 ⟨rfl, o1, n1, rfl⟩)) | (go_at_call 25; ((with_reducible refine (fL _ (by (show Grew _ _; (try simp only [← Array.append_assoc]); repeat (first | (with_reducible exact Grew.same_o) | (with_reducible exact Grew.refl _) | (with_reducible assumption) | (with_reducible refine Grew.alloc ?_ _) | (with_reducible refine Grew.app_r ?_) | ((with_reducible refine Grew.setCell ?_ ?_ _); rotate_left; (focus (dsimp only; first | omega | (simp only [size_ext, World.size_alloc, Array.size_append]; omega)))) | (with_reducible refine Grew.ext ?_ _ _) | (with_reducible refine Grew.drewN ?_ _) | (with_reducible refine Grew.drew ?_))))).mono ?_); rintro e w1 ⟨rfl, rfl⟩)) | (go_at_call 25; ((with_reducible refine (fX _ (by (show Grew _ _; (try simp only [← Array.append_assoc]); repeat (first | (with_reducible exact Grew.same_o) | (with_reducible exact Grew.refl _) | (with_reducible assumption) | (with_reducible refine Grew.alloc ?_ _) | (with_reducible refine Grew.app_r ?_) | ((with_reducible refine Grew.setCell ?_ ?_ _); rotate_left; (focus (dsimp only; first | omega | (simp only [size_ext, World.size_alloc, Array.size_append]; omega)))) | (with_reducible refine Grew.ext ?_ _ _) | (with_reducible refine Grew.drewN ?_ _) | (with_reducible refine Grew.drew ?_))))).mono ?_); rintro e w1 ⟨rfl, rfl⟩)) | (go_at_call 25; ((with_reducible refine (fY _ (by (show Grew _ _; (try simp only [← Array.append_assoc]); repeat (first | (with_reducible exact Grew.same_o) | (with_reducible exact Grew.refl _) | (with_reducible assumption) | (with_reducible refine Grew.alloc ?_ _) | (with_reducible refine Grew.app_r ?_) | ((with_reducible refine Grew.setCell ?_ ?_ _); rotate_left; (focus (dsimp only; first | omega | (simp only [size_ext, World.size_alloc, Array.size_append]; omega)))) | (with_reducible refine Grew.ext ?_ _ _) | (with_reducible refine Grew.drewN ?_ _) | (with_reducible refine Grew.drew ?_))))).mono ?_); rintro e w1 ⟨rfl, rfl⟩)))
  clear fL fX fY d1 d1' d2 d3 d4 d5
  go_upto_region 7 with (first | (go_at_call 68; ((with_reducible refine (hnw _).mono ?_); rintro e w1 ⟨g, rfl, hg, hF, o2, n2, rfl⟩)))
  refine name_any (fun V hV => ?_)
  obtain ⟨kT, hkT⟩ : ∃ kT, kT = w.heap.size + (o1.size + o2.size) := ⟨_, rfl⟩
  have gV : Grew w V := by rw [← hV]; (show Grew _ _; (try simp only [← Array.append_assoc]); repeat (first | (with_reducible exact Grew.same_o) | (with_reducible exact Grew.refl _) | (with_reducible assumption) | (with_reducible refine Grew.alloc ?_ _) | (with_reducible refine Grew.app_r ?_) | ((with_reducible refine Grew.setCell ?_ ?_ _); rotate_left; (focus (dsimp only; first | omega | (simp only [size_ext, World.size_alloc, Array.size_append]; omega)))) | (with_reducible refine Grew.ext ?_ _ _) | (with_reducible refine Grew.drewN ?_ _) | (with_reducible refine Grew.drew ?_)))
  have zg : w.heap.size ≤ g := by simp only [size_ext] at hg; omega
  have ng : g ≠ kT := by have := hF.lt; simp only [size_ext] at this; omega
  have BT : Box V kT #[.int .i64 lY, .int .i64 n, .slice (some ⟨g, 0, none⟩) (lY * n) (lY * n)] := by rw [← hV]; exact Box.new' (by rw [hkT]; simp only [size_ext, Array.size_append])
  have zkT : w.heap.size ≤ kT := by omega
  have hFV : FW V g T0 := by rw [← hV]; simp only [ext_ext] at hF; exact hF.alloc _
  have hLV := HL.out.grew gV
  have tT := BT.cell
  have kkT := BT.lt
  simp only [← hkT]
  clear hV hkT hF hg
  go_upto_region 8 with (first | ((refine copyF_K' rfl (.tmp 70) (.tmp 71) 24 24 rfl 22 (by kernel_rfl) (by kernel_rfl) g (lY * n) (lY * n) aL lL cL T0 L rfl rfl lT0 hFV hLV ?_); intro w7 z7 hw7))
  rw [← hTT] at hw7
  have g7 : Grew w w7 := hw7.grew gV zg
  have hT7 : FW w7 g TT := hw7.fw hFV
  have BT7 : Box w7 kT #[.int .i64 lY, .int .i64 n, .slice (some ⟨g, 0, none⟩) (lY * n) (lY * n)] := by
    obtain ⟨cs, o, m, hw, _⟩ := hw7
    rw [hw]; exact (BT.upd_ne (fun e => ng e.symm) cs).grew ⟨_, _, rfl⟩
  have tT := BT7.cell
  have kkT := BT7.lt
  have hd7 := fun w' gg => hde w' g (hT7.grew gg)
  clear hw7 hFV hLV BT gV hde
  go_upto_region 10 with (first | (go_at_call 69; ((with_reducible refine (hd7 _ (by (show Grew _ _; (try simp only [← Array.append_assoc]); repeat (first | (with_reducible exact Grew.same_o) | (with_reducible exact Grew.refl _) | (with_reducible assumption) | (with_reducible refine Grew.alloc ?_ _) | (with_reducible refine Grew.app_r ?_) | ((with_reducible refine Grew.setCell ?_ ?_ _); rotate_left; (focus (dsimp only; first | omega | (simp only [size_ext, World.size_alloc, Array.size_append]; omega)))) | (with_reducible refine Grew.ext ?_ _ _) | (with_reducible refine Grew.drewN ?_ _) | (with_reducible refine Grew.drew ?_))))).mono ?_); rintro e w1 ⟨gm, cm, rfl, hgm, hM, o3, n3, rfl⟩)) | (go_at_call 70; ((with_reducible refine (hcp _ (Grew.trans g7 (by (show Grew _ _; (try simp only [← Array.append_assoc]); repeat (first | (with_reducible exact Grew.same_o) | (with_reducible exact Grew.refl _) | (with_reducible assumption) | (with_reducible refine Grew.alloc ?_ _) | (with_reducible refine Grew.app_r ?_) | ((with_reducible refine Grew.setCell ?_ ?_ _); rotate_left; (focus (dsimp only; first | omega | (simp only [size_ext, World.size_alloc, Array.size_append]; omega)))) | (with_reducible refine Grew.ext ?_ _ _) | (with_reducible refine Grew.drewN ?_ _) | (with_reducible refine Grew.drew ?_)))))).mono ?_); rintro e w1 ⟨v, rfl, ⟨gz, cz, rfl, hgz, hZ, hzl⟩, o4, n4, rfl⟩)))
  refine name_any (fun V hV => ?_)
  obtain ⟨kD, hkD⟩ : ∃ kD, kD = w7.heap.size + o3.size := ⟨_, rfl⟩
  have gV7 : Grew w7 V := by rw [← hV]; (show Grew _ _; (try simp only [← Array.append_assoc]); repeat (first | (with_reducible exact Grew.same_o) | (with_reducible exact Grew.refl _) | (with_reducible assumption) | (with_reducible refine Grew.alloc ?_ _) | (with_reducible refine Grew.app_r ?_) | ((with_reducible refine Grew.setCell ?_ ?_ _); rotate_left; (focus (dsimp only; first | omega | (simp only [size_ext, World.size_alloc, Array.size_append]; omega)))) | (with_reducible refine Grew.ext ?_ _ _) | (with_reducible refine Grew.drewN ?_ _) | (with_reducible refine Grew.drew ?_)))
  have hMV : FW V gm DD := by rw [← hV]; exact (hM.alloc _).ext _ _
  have hZV : FW V gz Y := by rw [← hV]; exact hZ
  have BD : Box V kD #[.slice (some ⟨gm, 0, none⟩) (lY * n) cm, .int .i64 0, .int .i64 lY, .int .i64 n, .int .i64 lY] := by rw [← hV]; exact (Box.new' (by rw [hkD]; simp only [size_ext])).grew ⟨_, _, rfl⟩
  have lm := hM.lt
  have zz7 := g7.below.size
  simp only [size_ext, World.size_alloc] at hgz lm
  have zgz : w7.heap.size < gz := by omega
  have ngz : gz ≠ gm := by omega
  have tD := BD.cell
  have kkD := BD.lt
  have BTV := BT7.grew gV7
  have hTV := hT7.grew gV7
  have lgT := hT7.lt
  have hml : Calls Try.prog 71 #[.float .f64 4607182418800017408, .agg #[.slice (some ⟨gm, 0, none⟩) (lY * n) cm, .int .i64 0, .int .i64 lY, .int .i64 n, .int .i64 lY], .agg #[.slice (some ⟨bx, ox, none⟩) lX cX, .int .i64 0, .int .i64 n, .int .i64 1], .float .f64 4607182418800017408, .agg #[.slice (some ⟨gz, 0, none⟩) Y.length cz, .int .i64 0, .int .i64 lY, .int .i64 1]] V
      (fun e w' => e = .returned (.int .i64 0) ∧ But V [gz] w' ∧ ∃ Z, FW w' gz Z ∧ Z.length = lY ∧ ∀ i, i < lY → ∃ S : Nat → Nat, S 0 = fmul 4607182418800017408 (Y.getD i 0) ∧ (∀ j, j < n → S (j + 1) = fadd (S j) (fmul (fmul 4607182418800017408 (X.getD j 0)) (TT.getD (i * n + j) 0))) ∧ Z.getD i 0 = S n) := by
    have h := mul_cl lY n TT X Y lTT (by omega) (by omega) (by omega) (by omega) gm cm bx ox cX gz cz V (by rw [← hDD]; exact hMV) (by rw [← EX.out]; exact HX.out.grew (Grew.trans g7 gV7)) (by rw [← EX.out]; omega) (by rw [← EX.out]; omega) hZV EY.out.symm ngz (by omega)
    rw [← EX.out, ← EY.out] at h
    rw [← EY.out]
    exact h
  simp only [← hkD]
  clear hV hkD hM hZ hgm
  go_upto_region 12 with (first | (go_at_call 71; ((with_reducible refine (hml).mono ?_); rintro e w1 ⟨rfl, hB, Z, hZ, lZ, hZs⟩)))
  have hltX : ∀ j, X.getD j 0 < 2 ^ 64 := fun j => gclFS_lt HX.out j
  have hltY : ∀ j, Y.getD j 0 < 2 ^ 64 := fun j => gclFS_lt HY.out j
  have gV : Grew w V := Grew.trans g7 gV7
  have g1 : Grew w w1 := hB.grew0 gV (by intro k hk; simp at hk; omega)
  have BT1 : Box w1 kT #[.int .i64 lY, .int .i64 n, .slice (some ⟨g, 0, none⟩) (lY * n) (lY * n)] := by
    have kBT := BTV.lt
    obtain ⟨e, he⟩ := BTV
    exact ⟨e, (hB.block _ kBT (by simp; omega)).trans he⟩
  have hT1 : FW w1 g TT := hB.fw hTV (by simp; omega)
  have hZ1 := hZ.fs (by omega) cz
  have hZc := hZ1.at.2 (by omega)
  have kgz := hZ.lt
  rw [lZ] at hZ1
  have eYY := EY.out
  rw [← eYY]
  have hLAW : finL Z = true → ∀ i, i < lY → (val (Z.getD i 0) - exS (val (Y.getD i 0)) (prG n TT X i) n).abs ≤ (exB (val (Y.getD i 0)) (prG n TT X i) n * p2 (-51) + ((1 : Nat) : Rat) * p2 (-1070)) * ((n + 1 : Nat) : Rat) := fun hf i hi => by
    obtain ⟨S, q1, q2, q3⟩ := hZs i hi
    have hz : fin (S n) = true := by
      have h1 : finB (Z.getD i 0) = true := by
        unfold finL at hf
        rw [List.all_eq_true] at hf
        refine hf _ ?_
        rw [List.getD_eq_getElem?_getD, List.getElem?_eq_getElem (by omega)]; exact List.getElem_mem _
      have h2 : Z.getD i 0 < 2 ^ 64 := gclFS_lt hZ1 i
      rw [← q3, fin_kind h2]; exact h1
    have := mul_close (A := fun j => TT.getD (i * n + j) 0) (X := fun j => X.getD j 0) (by omega) hltX (hltY i) q1 q2 hz
    rw [← q3] at this
    exact this
  have LAW := hid hLAW
  clear hB hZ hZs hLAW BTV hTV hZV hMV BD tD kkD tT kkT BT7 hT7 gV7 gV g7 hltX hltY hml hd7 hnw hcp lm eYY hT0 hTT hDD zz7 zgz lgT
  have fZ : ∀ b, finL Z = b → Calls Try.prog 25 #[.slice (some ⟨gz, 0, none⟩) lY cz] w1 (fun e w2 => e = .returned (.bool b) ∧ w1 = w2) := fun b hb => by have := finite_any _ Z w1 hZ1; rw [hb] at this; exact this
  cases hfz : finL Z
  · have fZ' := fZ _ hfz
    clear fZ
    go_wp2_with (first | (go_at_call 67; ((with_reducible refine (awake07 _).mono ?_); rintro e w9 ⟨rfl, o9, n9, rfl⟩)) | (go_at_call 25; ((with_reducible refine fZ'.mono ?_); rintro e w2 ⟨rfl, rfl⟩)))
    go_ret
    exact ⟨rfl, Grew.trans g1 (by (show Grew _ _; (try simp only [← Array.append_assoc]); repeat (first | (with_reducible exact Grew.same_o) | (with_reducible exact Grew.refl _) | (with_reducible assumption) | (with_reducible refine Grew.alloc ?_ _) | (with_reducible refine Grew.app_r ?_) | ((with_reducible refine Grew.setCell ?_ ?_ _); rotate_left; (focus (dsimp only; first | omega | (simp only [size_ext, World.size_alloc, Array.size_append]; omega)))) | (with_reducible refine Grew.ext ?_ _ _) | (with_reducible refine Grew.drewN ?_ _) | (with_reducible refine Grew.drew ?_))))⟩
  · have fZ' := fZ _ hfz
    have HLAW := hid (LAW.out hfz)
    clear fZ LAW hfz
    obtain ⟨kz0, kz1, ez, kz2, hZc⟩ := hZc
    cases ez
    have HZc := hid hZc
    have HTT := hid (hT1.fs (by omega) (lY * n))
    clear hZc hT1 hZ1
    have hAt : ∀ (i j : Nat) w', i < lY → j < n → Grew w1 w' → Calls Try.prog 72 #[.agg #[.int .i64 lY, .int .i64 n, .slice (some ⟨g, 0, none⟩) (lY * n) (lY * n)], .int .i64 i, .int .i64 j] w' (fun e w2 => ∃ b, e = .returned (.float .f64 b) ∧ IsF b (TT.getD (i * n + j) 0) ∧ ∃ o n, w2 = ext w' o n) := fun i j w' hi hj gg => by
      have h := HTT.out
      rw [lTT] at h
      have hk : i * n + j < lY * n := by
        have := Nat.mul_le_mul_right n (show i + 1 ≤ lY by omega)
        rw [Nat.add_mul] at this; omega
      exact rat_any lY n i j _ TT w' (h.grew gg) (by omega) (by omega) (by omega) (by omega) (by omega)
    have hI1 : ∀ w', Calls Try.prog 33 #[.int .i64 1] w' (fun e w2 => ∃ v, e = .returned v ∧ DV w2 v ((1 : Nat) : Rat) 0 4 ∧ (∀ k, dBlock v = some k → w'.heap.size ≤ k) ∧ ∃ o n, w2 = ext w' o n) := fun w' => dint_any 1 w' (by decide)
    have hI2 : ∀ w', Calls Try.prog 33 #[.int .i64 ((n : Int) + 1)] w' (fun e w2 => ∃ v, e = .returned v ∧ DV w2 v ((n + 1 : Nat) : Rat) 0 4 ∧ (∀ k, dBlock v = some k → w'.heap.size ≤ k) ∧ ∃ o n, w2 = ext w' o n) := fun w' => dint_any (n + 1) w' (by omega)
    obtain ⟨T1, hT1⟩ : ∃ q : Rat, q = ((n + 1 : Nat) : Rat) := ⟨_, rfl⟩
    rw [← hT1] at hI2
    rw [← hT1] at HLAW
    clear hT1
    have BTc := BT1.cell
    have kBT := BT1.lt
    have HBT : ∀ w', Grew w1 w' → ∀ i, w'.cell? ⟨kT, i, none⟩ = (#[.int .i64 lY, .int .i64 n, .slice (some ⟨g, 0, none⟩) (lY * n) (lY * n)] : Array Value)[i]? := fun w' gg i => (gg.cell kBT).trans (BTc i)
    have hYb : ∀ i, i < lY → ∃ b, IsF b (Y.getD i 0) ∧ ∀ w', Grew w1 w' → w'.cell? ⟨blY, oy + i, none⟩ = some (.float .f64 b) := fun i hi => by
      obtain ⟨b, h1, h2⟩ := HYc.out i (by have := EY.out; omega)
      exact ⟨b, h2, fun w' gg => ((Grew.trans g1 gg).cell kby).trans h1⟩
    have hXb : ∀ i, i < n → ∃ b, IsF b (X.getD i 0) ∧ ∀ w', Grew w1 w' → w'.cell? ⟨bx, ox + i, none⟩ = some (.float .f64 b) := fun i hi => by
      obtain ⟨b, h1, h2⟩ := HXc.out i (by have := EX.out; omega)
      exact ⟨b, h2, fun w' gg => ((Grew.trans g1 gg).cell kbx).trans h1⟩
    have hZb : ∀ i, i < lY → ∃ b, IsF b (Z.getD i 0) ∧ ∀ w', Grew w1 w' → w'.cell? ⟨gz, i, none⟩ = some (.float .f64 b) := fun i hi => by
      obtain ⟨b, h1, h2⟩ := HZc.out i (by omega)
      rw [Nat.zero_add] at h1
      exact ⟨b, h2, fun w' gg => (gg.cell kgz).trans h1⟩
    have kbx1 : bx < w1.heap.size := Nat.lt_of_lt_of_le kbx g1.below.size
    have kby1 : blY < w1.heap.size := Nat.lt_of_lt_of_le kby g1.below.size
    clear BT1 BTc HZc HTT HXc HYc HX HY HL
    go_upto_region 14 with (first | (go_at_call 25; ((with_reducible refine fZ'.mono ?_); rintro e w2 ⟨rfl, rfl⟩)))
    clear fZ'
    go_wp2
    go_loopw [13] (fun c wx => ∃ (i : Nat), i ≤ lY ∧ c = .int .i64 i ∧ Grew w1 wx) (fun c _ => lY - (intOf c).toNat)
    case atStart => exact ⟨0, Nat.zero_le _, rfl, Grew.refl _⟩
    case round =>
      obtain ⟨i, hi, rfl, g2⟩ := hrel
      obtain ⟨U0, rfl⟩ : ∃ U0, U0 = wr := ⟨_, rfl⟩
      by_cases hlt : i < lY
      · obtain ⟨by1, fy, hby⟩ := hYb i hlt
        obtain ⟨bz1, fz, hbz⟩ := hZb i hlt
        have hbyU := hby _ g2
        have kbyU : blY < U0.heap.size := Nat.lt_of_lt_of_le kby1 g2.below.size
        go_wp2
        refine wp_region_JD [0, 14, 15] (U0) [.val (fun v => v = .slice (some ⟨blY, oy, none⟩) lY cY), .val (fun v => v = .int .i64 i), .val (fun v => v = .pointer (some ⟨blY, oy + i, none⟩)), .val (fun v => v = .float .f64 by1), .dv (val (Y.getD i 0)) (-70) (70), .val (fun v => v = .slice (some ⟨blY, oy, none⟩) lY cY), .val (fun v => v = .int .i64 i), .val (fun v => v = .pointer (some ⟨blY, oy + i, none⟩)), .val (fun v => v = .float .f64 by1), .dv (val (Y.getD i 0)) (-70) (70), .dv ((val (Y.getD i 0)).abs) (-70) (70), .box, .box, .put 14 (val (Y.getD i 0)) (-70) (70), .put 15 ((val (Y.getD i 0)).abs) (-70) (70)] [101, 102, 103, 104, 105, 106, 107, 108, 109, 110, 111, 14, 15] (by kernel_rfl) (by kernel_rfl) (by (show Grew _ _; (try simp only [← Array.append_assoc]); repeat (first | (with_reducible exact Grew.same_o) | (with_reducible exact Grew.refl _) | (with_reducible assumption) | (with_reducible refine Grew.alloc ?_ _) | (with_reducible refine Grew.app_r ?_) | ((with_reducible refine Grew.setCell ?_ ?_ _); rotate_left; (focus (dsimp only; first | omega | (simp only [size_ext, World.size_alloc, Array.size_append]; omega)))) | (with_reducible refine Grew.ext ?_ _ _) | (with_reducible refine Grew.drewN ?_ _) | (with_reducible refine Grew.drew ?_)))) ?_ (fun ρ own V gV h0F hF => ?_)
        · refine stepsD_cons (j := 1) rfl ?_ ?_
          · intro L ρ own u hS K hK
            obtain ⟨o', n', hu⟩ := hS.grew
            subst hu
            simp only [mkA_cons, mkA_nil, List.setIfInBounds_toArray, List.set_cons_zero, List.set_cons_succ]
            go_wp2_with fail
            exact hS.val rfl rfl (by kernel_rfl) (by (show Grew _ _; (try simp only [← Array.append_assoc]); repeat (first | (with_reducible exact Grew.same_o) | (with_reducible exact Grew.refl _) | (with_reducible assumption) | (with_reducible refine Grew.alloc ?_ _) | (with_reducible refine Grew.app_r ?_) | ((with_reducible refine Grew.setCell ?_ ?_ _); rotate_left; (focus (dsimp only; first | omega | (simp only [size_ext, World.size_alloc, Array.size_append]; omega)))) | (with_reducible refine Grew.ext ?_ _ _) | (with_reducible refine Grew.drewN ?_ _) | (with_reducible refine Grew.drew ?_)))) (by first | rfl | assumption) (by simp only [mkA_cons, mkA_nil, List.setIfInBounds_toArray, List.set_cons_zero, List.set_cons_succ, *] )
          refine stepsD_cons (j := 2) rfl ?_ ?_
          · intro L ρ own u hS K hK
            obtain ⟨o', n', hu⟩ := hS.grew
            subst hu
            simp only [mkA_cons, mkA_nil, List.setIfInBounds_toArray, List.set_cons_zero, List.set_cons_succ]
            go_wp2_with fail
            exact hS.val rfl rfl (by kernel_rfl) (by (show Grew _ _; (try simp only [← Array.append_assoc]); repeat (first | (with_reducible exact Grew.same_o) | (with_reducible exact Grew.refl _) | (with_reducible assumption) | (with_reducible refine Grew.alloc ?_ _) | (with_reducible refine Grew.app_r ?_) | ((with_reducible refine Grew.setCell ?_ ?_ _); rotate_left; (focus (dsimp only; first | omega | (simp only [size_ext, World.size_alloc, Array.size_append]; omega)))) | (with_reducible refine Grew.ext ?_ _ _) | (with_reducible refine Grew.drewN ?_ _) | (with_reducible refine Grew.drew ?_)))) (by first | rfl | assumption) (by simp only [mkA_cons, mkA_nil, List.setIfInBounds_toArray, List.set_cons_zero, List.set_cons_succ, *] )
          refine stepsD_cons (j := 3) rfl ?_ ?_
          · intro L ρ own u hS K hK
            have e0 := hS.fact 0 rfl rfl (by kernel_rfl)
            change ρ 101 = _ at e0
            have e1 := hS.fact 1 rfl rfl (by kernel_rfl)
            change ρ 102 = _ at e1
            obtain ⟨o', n', hu⟩ := hS.grew
            subst hu
            simp only [mkA_cons, mkA_nil, List.setIfInBounds_toArray, List.set_cons_zero, List.set_cons_succ]
            go_wp2_with fail
            exact hS.val rfl rfl (by kernel_rfl) (by (show Grew _ _; (try simp only [← Array.append_assoc]); repeat (first | (with_reducible exact Grew.same_o) | (with_reducible exact Grew.refl _) | (with_reducible assumption) | (with_reducible refine Grew.alloc ?_ _) | (with_reducible refine Grew.app_r ?_) | ((with_reducible refine Grew.setCell ?_ ?_ _); rotate_left; (focus (dsimp only; first | omega | (simp only [size_ext, World.size_alloc, Array.size_append]; omega)))) | (with_reducible refine Grew.ext ?_ _ _) | (with_reducible refine Grew.drewN ?_ _) | (with_reducible refine Grew.drew ?_)))) (by first | rfl | assumption) (by simp only [mkA_cons, mkA_nil, List.setIfInBounds_toArray, List.set_cons_zero, List.set_cons_succ, *] )
          refine stepsD_cons (j := 4) rfl ?_ ?_
          · intro L ρ own u hS K hK
            have e2 := hS.fact 2 rfl rfl (by kernel_rfl)
            change ρ 103 = _ at e2
            obtain ⟨o', n', hu⟩ := hS.grew
            subst hu
            simp only [mkA_cons, mkA_nil, List.setIfInBounds_toArray, List.set_cons_zero, List.set_cons_succ]
            go_wp2_with fail
            exact hS.val rfl rfl (by kernel_rfl) (by (show Grew _ _; (try simp only [← Array.append_assoc]); repeat (first | (with_reducible exact Grew.same_o) | (with_reducible exact Grew.refl _) | (with_reducible assumption) | (with_reducible refine Grew.alloc ?_ _) | (with_reducible refine Grew.app_r ?_) | ((with_reducible refine Grew.setCell ?_ ?_ _); rotate_left; (focus (dsimp only; first | omega | (simp only [size_ext, World.size_alloc, Array.size_append]; omega)))) | (with_reducible refine Grew.ext ?_ _ _) | (with_reducible refine Grew.drewN ?_ _) | (with_reducible refine Grew.drew ?_)))) (by first | rfl | assumption) (by simp only [mkA_cons, mkA_nil, List.setIfInBounds_toArray, List.set_cons_zero, List.set_cons_succ, *] )
          refine stepsD_cons (j := 5) rfl ?_ ?_
          · intro L ρ own u hS K hK
            have e3 := hS.fact 3 rfl rfl (by kernel_rfl)
            change ρ 104 = _ at e3
            obtain ⟨o', n', hu⟩ := hS.grew
            subst hu
            simp only [mkA_cons, mkA_nil, List.setIfInBounds_toArray, List.set_cons_zero, List.set_cons_succ]
            go_wp2_with (first | (go_at_call 27; ((with_reducible refine (of_any by1 _ _ fy).mono ?_); rintro e w1 ⟨v, rfl, hv, hk, o1, n1, rfl⟩; (obtain ⟨v1, v2, v3, v4, v5, rfl⟩ := hv.shape))))
            try simp only [drew_ext, drewN_ext, ext_ext] at hv
            exact hS.dv rfl rfl (by kernel_rfl) (by (show Grew _ _; (try simp only [← Array.append_assoc]); repeat (first | (with_reducible exact Grew.same_o) | (with_reducible exact Grew.refl _) | (with_reducible assumption) | (with_reducible refine Grew.alloc ?_ _) | (with_reducible refine Grew.app_r ?_) | ((with_reducible refine Grew.setCell ?_ ?_ _); rotate_left; (focus (dsimp only; first | omega | (simp only [size_ext, World.size_alloc, Array.size_append]; omega)))) | (with_reducible refine Grew.ext ?_ _ _) | (with_reducible refine Grew.drewN ?_ _) | (with_reducible refine Grew.drew ?_)))) hv (fun k h1 h2 => .inl (by have := hk k h1; simp only [size_ext] at *; omega)) (by simp only [mkA_cons, mkA_nil, List.setIfInBounds_toArray, List.set_cons_zero, List.set_cons_succ, *] )
          refine stepsD_cons (j := 6) rfl ?_ ?_
          · intro L ρ own u hS K hK
            obtain ⟨o', n', hu⟩ := hS.grew
            subst hu
            simp only [mkA_cons, mkA_nil, List.setIfInBounds_toArray, List.set_cons_zero, List.set_cons_succ]
            go_wp2_with fail
            exact hS.val rfl rfl (by kernel_rfl) (by (show Grew _ _; (try simp only [← Array.append_assoc]); repeat (first | (with_reducible exact Grew.same_o) | (with_reducible exact Grew.refl _) | (with_reducible assumption) | (with_reducible refine Grew.alloc ?_ _) | (with_reducible refine Grew.app_r ?_) | ((with_reducible refine Grew.setCell ?_ ?_ _); rotate_left; (focus (dsimp only; first | omega | (simp only [size_ext, World.size_alloc, Array.size_append]; omega)))) | (with_reducible refine Grew.ext ?_ _ _) | (with_reducible refine Grew.drewN ?_ _) | (with_reducible refine Grew.drew ?_)))) (by first | rfl | assumption) (by simp only [mkA_cons, mkA_nil, List.setIfInBounds_toArray, List.set_cons_zero, List.set_cons_succ, *] )
          refine stepsD_cons (j := 7) rfl ?_ ?_
          · intro L ρ own u hS K hK
            obtain ⟨o', n', hu⟩ := hS.grew
            subst hu
            simp only [mkA_cons, mkA_nil, List.setIfInBounds_toArray, List.set_cons_zero, List.set_cons_succ]
            go_wp2_with fail
            exact hS.val rfl rfl (by kernel_rfl) (by (show Grew _ _; (try simp only [← Array.append_assoc]); repeat (first | (with_reducible exact Grew.same_o) | (with_reducible exact Grew.refl _) | (with_reducible assumption) | (with_reducible refine Grew.alloc ?_ _) | (with_reducible refine Grew.app_r ?_) | ((with_reducible refine Grew.setCell ?_ ?_ _); rotate_left; (focus (dsimp only; first | omega | (simp only [size_ext, World.size_alloc, Array.size_append]; omega)))) | (with_reducible refine Grew.ext ?_ _ _) | (with_reducible refine Grew.drewN ?_ _) | (with_reducible refine Grew.drew ?_)))) (by first | rfl | assumption) (by simp only [mkA_cons, mkA_nil, List.setIfInBounds_toArray, List.set_cons_zero, List.set_cons_succ, *] )
          refine stepsD_cons (j := 8) rfl ?_ ?_
          · intro L ρ own u hS K hK
            have e5 := hS.fact 5 rfl rfl (by kernel_rfl)
            change ρ 106 = _ at e5
            have e6 := hS.fact 6 rfl rfl (by kernel_rfl)
            change ρ 107 = _ at e6
            obtain ⟨o', n', hu⟩ := hS.grew
            subst hu
            simp only [mkA_cons, mkA_nil, List.setIfInBounds_toArray, List.set_cons_zero, List.set_cons_succ]
            go_wp2_with fail
            exact hS.val rfl rfl (by kernel_rfl) (by (show Grew _ _; (try simp only [← Array.append_assoc]); repeat (first | (with_reducible exact Grew.same_o) | (with_reducible exact Grew.refl _) | (with_reducible assumption) | (with_reducible refine Grew.alloc ?_ _) | (with_reducible refine Grew.app_r ?_) | ((with_reducible refine Grew.setCell ?_ ?_ _); rotate_left; (focus (dsimp only; first | omega | (simp only [size_ext, World.size_alloc, Array.size_append]; omega)))) | (with_reducible refine Grew.ext ?_ _ _) | (with_reducible refine Grew.drewN ?_ _) | (with_reducible refine Grew.drew ?_)))) (by first | rfl | assumption) (by simp only [mkA_cons, mkA_nil, List.setIfInBounds_toArray, List.set_cons_zero, List.set_cons_succ, *] )
          refine stepsD_cons (j := 9) rfl ?_ ?_
          · intro L ρ own u hS K hK
            have e7 := hS.fact 7 rfl rfl (by kernel_rfl)
            change ρ 108 = _ at e7
            obtain ⟨o', n', hu⟩ := hS.grew
            subst hu
            simp only [mkA_cons, mkA_nil, List.setIfInBounds_toArray, List.set_cons_zero, List.set_cons_succ]
            go_wp2_with fail
            exact hS.val rfl rfl (by kernel_rfl) (by (show Grew _ _; (try simp only [← Array.append_assoc]); repeat (first | (with_reducible exact Grew.same_o) | (with_reducible exact Grew.refl _) | (with_reducible assumption) | (with_reducible refine Grew.alloc ?_ _) | (with_reducible refine Grew.app_r ?_) | ((with_reducible refine Grew.setCell ?_ ?_ _); rotate_left; (focus (dsimp only; first | omega | (simp only [size_ext, World.size_alloc, Array.size_append]; omega)))) | (with_reducible refine Grew.ext ?_ _ _) | (with_reducible refine Grew.drewN ?_ _) | (with_reducible refine Grew.drew ?_)))) (by first | rfl | assumption) (by simp only [mkA_cons, mkA_nil, List.setIfInBounds_toArray, List.set_cons_zero, List.set_cons_succ, *] )
          refine stepsD_cons (j := 10) rfl ?_ ?_
          · intro L ρ own u hS K hK
            obtain ⟨g4, a4, n4, c4, E4, e4, hv4, hs4⟩ := dvOut (hS.fact 4 rfl rfl (by kernel_rfl))
            change ρ 105 = _ at e4
            have e8 := hS.fact 8 rfl rfl (by kernel_rfl)
            change ρ 109 = _ at e8
            obtain ⟨o', n', hu⟩ := hS.grew
            subst hu
            simp only [mkA_cons, mkA_nil, List.setIfInBounds_toArray, List.set_cons_zero, List.set_cons_succ]
            go_wp2_with (first | (go_at_call 27; ((with_reducible refine (of_any by1 _ _ fy).mono ?_); rintro e w1 ⟨v, rfl, hv, hk, o1, n1, rfl⟩; (obtain ⟨v1, v2, v3, v4, v5, rfl⟩ := hv.shape))))
            try simp only [drew_ext, drewN_ext, ext_ext] at hv
            exact hS.dv rfl rfl (by kernel_rfl) (by (show Grew _ _; (try simp only [← Array.append_assoc]); repeat (first | (with_reducible exact Grew.same_o) | (with_reducible exact Grew.refl _) | (with_reducible assumption) | (with_reducible refine Grew.alloc ?_ _) | (with_reducible refine Grew.app_r ?_) | ((with_reducible refine Grew.setCell ?_ ?_ _); rotate_left; (focus (dsimp only; first | omega | (simp only [size_ext, World.size_alloc, Array.size_append]; omega)))) | (with_reducible refine Grew.ext ?_ _ _) | (with_reducible refine Grew.drewN ?_ _) | (with_reducible refine Grew.drew ?_)))) hv (fun k h1 h2 => .inl (by have := hk k h1; simp only [size_ext] at *; omega)) (by simp only [mkA_cons, mkA_nil, List.setIfInBounds_toArray, List.set_cons_zero, List.set_cons_succ, *] )
          refine stepsD_cons (j := 11) rfl ?_ ?_
          · intro L ρ own u hS K hK
            obtain ⟨g9, a9, n9, c9, E9, e9, hv9, hs9⟩ := dvOut (hS.fact 9 rfl rfl (by kernel_rfl))
            change ρ 110 = _ at e9
            obtain ⟨o', n', hu⟩ := hS.grew
            subst hu
            simp only [mkA_cons, mkA_nil, List.setIfInBounds_toArray, List.set_cons_zero, List.set_cons_succ]
            go_wp2_with (first | (go_at_call 30; ((with_reducible refine (dabs_any _ _ _ _ _ hv9).mono ?_); rintro e w1 ⟨v, rfl, hv, hk, o1, n1, rfl⟩; (obtain ⟨v1, v2, v3, v4, v5, rfl⟩ := hv.shape))))
            try simp only [drew_ext, drewN_ext, ext_ext] at hv
            exact hS.dv rfl rfl (by kernel_rfl) (by (show Grew _ _; (try simp only [← Array.append_assoc]); repeat (first | (with_reducible exact Grew.same_o) | (with_reducible exact Grew.refl _) | (with_reducible assumption) | (with_reducible refine Grew.alloc ?_ _) | (with_reducible refine Grew.app_r ?_) | ((with_reducible refine Grew.setCell ?_ ?_ _); rotate_left; (focus (dsimp only; first | omega | (simp only [size_ext, World.size_alloc, Array.size_append]; omega)))) | (with_reducible refine Grew.ext ?_ _ _) | (with_reducible refine Grew.drewN ?_ _) | (with_reducible refine Grew.drew ?_)))) hv (fun k h1 h2 => .inr (hs9 k (by rw [← hk.1]; exact h1) (by rw [← hk.2]; exact h2))) (by simp only [mkA_cons, mkA_nil, List.setIfInBounds_toArray, List.set_cons_zero, List.set_cons_succ, *] )
          refine stepsD_cons (j := 12) rfl ?_ ?_
          · intro L ρ own u hS K hK
            simp only [mkA_cons, mkA_nil, List.setIfInBounds_toArray, List.set_cons_zero, List.set_cons_succ]
            go_wp2_with fail
            exact hS.box rfl rfl (by kernel_rfl) rfl (by simp only [mkA_cons, mkA_nil, List.setIfInBounds_toArray, List.set_cons_zero, List.set_cons_succ, *] )
          refine stepsD_cons (j := 13) rfl ?_ ?_
          · intro L ρ own u hS K hK
            simp only [mkA_cons, mkA_nil, List.setIfInBounds_toArray, List.set_cons_zero, List.set_cons_succ]
            go_wp2_with fail
            exact hS.box rfl rfl (by kernel_rfl) rfl (by simp only [mkA_cons, mkA_nil, List.setIfInBounds_toArray, List.set_cons_zero, List.set_cons_succ, *] )
          refine stepsD_cons (j := 14) rfl ?_ ?_
          · intro L ρ own u hS K hK
            exact hS.put (kb := 11) (kr := 4) rfl rfl (by kernel_rfl) (by decide) rfl rfl (by kernel_rfl) rfl rfl rfl (by kernel_rfl) rfl rfl (by simp only [mkA_cons, mkA_nil, List.setIfInBounds_toArray, List.set_cons_zero, List.set_cons_succ]; rfl) (by simp only [mkA_cons, mkA_nil, List.setIfInBounds_toArray, List.set_cons_zero, List.set_cons_succ]; rfl) (by kernel_rfl) hK
          refine stepsD_cons (j := 15) rfl ?_ ?_
          · intro L ρ own u hS K hK
            exact hS.put (kb := 12) (kr := 10) rfl rfl (by kernel_rfl) (by decide) rfl rfl (by kernel_rfl) rfl rfl rfl (by kernel_rfl) rfl rfl (by simp only [mkA_cons, mkA_nil, List.setIfInBounds_toArray, List.set_cons_zero, List.set_cons_succ]; rfl) (by simp only [mkA_cons, mkA_nil, List.setIfInBounds_toArray, List.set_cons_zero, List.set_cons_succ]; rfl) (by kernel_rfl) hK
          exact stepsD_nil
        obtain ⟨p13, g13, a13, n13, c13, E13, e13, zl13, ow13, bx13, hd13, sf13⟩ := putOut (hF 13 _ _ rfl rfl)
        have ce13 := bx13.cell
        have fr13 := bx13.frozen
        have zr13 := bx13.lt
        have nw13 := safeNew sf13 h0F (by simp)
        change ρ 14 = _ at e13
        obtain ⟨p14, g14, a14, n14, c14, E14, e14, zl14, ow14, bx14, hd14, sf14⟩ := putOut (hF 14 _ _ rfl rfl)
        have ce14 := bx14.cell
        have fr14 := bx14.frozen
        have zr14 := bx14.lt
        have nw14 := safeNew sf14 h0F (by simp)
        change ρ 15 = _ at e14
        have y0 := hF 0 _ _ rfl rfl
        change ρ 101 = _ at y0
        have y1 := hF 1 _ _ rfl rfl
        change ρ 102 = _ at y1
        have y2 := hF 2 _ _ rfl rfl
        change ρ 103 = _ at y2
        have y3 := hF 3 _ _ rfl rfl
        change ρ 104 = _ at y3
        have y5 := hF 5 _ _ rfl rfl
        change ρ 106 = _ at y5
        have y6 := hF 6 _ _ rfl rfl
        change ρ 107 = _ at y6
        have y7 := hF 7 _ _ rfl rfl
        change ρ 108 = _ at y7
        have y8 := hF 8 _ _ rfl rfl
        change ρ 109 = _ at y8
        simp only [mkA_cons, mkA_nil, List.setIfInBounds_toArray, List.set_cons_zero, List.set_cons_succ, e13, e14, y0, y1, y2, y3, y5, y6, y7, y8]
        have hne : p13 ≠ p14 := fun e => by rw [e, ow14] at ow13; cases ow13
        have q13 : dNot (.agg #[.bool g13, .slice a13 n13 c13, .int .i64 E13]) [p13, p14] := fun k h1 h2 h3 => by
          have a2 := (sf13 k h1 h2).2
          simp only [List.mem_cons, List.not_mem_nil, or_false] at h3
          rcases h3 with h3 | h3
          · rw [h3, ow13] at a2; simp at a2
          · rw [h3, ow14] at a2; simp at a2
        have q14 : dNot (.agg #[.bool g14, .slice a14 n14 c14, .int .i64 E14]) [p13, p14] := fun k h1 h2 h3 => by
          have a2 := (sf14 k h1 h2).2
          simp only [List.mem_cons, List.not_mem_nil, or_false] at h3
          rcases h3 with h3 | h3
          · rw [h3, ow13] at a2; simp at a2
          · rw [h3, ow14] at a2; simp at a2
        obtain ⟨S, hS⟩ : ∃ S, S = exS (val (Y.getD i 0)) (prG n TT X i) := ⟨_, rfl⟩
        obtain ⟨T, hT⟩ : ∃ T, T = exB (val (Y.getD i 0)) (prG n TT X i) := ⟨_, rfl⟩
        have hS0 : S 0 = val (Y.getD i 0) := by rw [hS]; rfl
        have hT0 : T 0 = (val (Y.getD i 0)).abs := by rw [hT]; rfl
        have hS1 : ∀ j, S (j + 1) = S j + val (TT.getD (i * n + j) 0) * val (X.getD j 0) := fun j => by rw [hS]; rfl
        have hT1 : ∀ j, T (j + 1) = T j + (val (TT.getD (i * n + j) 0) * val (X.getD j 0)).abs := fun j => by rw [hT]; rfl
        have hlawi := HLAW.out i hlt
        rw [← hS, ← hT] at hlawi
        rw [← hS0] at hd13
        rw [← hT0] at hd14
        have HLi := hid hlawi
        have HS1 := hid hS1
        have HT1 := hid hT1
        have zp13 : U0.heap.size ≤ p13 := zl13
        have zp14 : U0.heap.size ≤ p14 := zl14
        have bx13' := bx13
        have bx14' := bx14
        have gV' := gV
        clear hF h0F sf13 sf14 nw13 nw14 ow13 ow14 gV hbyU ce13 ce14 fr13 fr14 e13 e14 hS hT hS0 hT0 hS1 hT1 hlawi zl13 zl14
        go_wp2
        go_loopw [16] (fun c wx => ∃ (j : Nat) (na : Bool) (aa : Option Addr) (an ac : Nat) (aE : Int) (nb : Bool) (ba : Option Addr) (bn bc : Nat) (bE : Int), j ≤ n ∧ c = .int .i64 j ∧ Grew U0 wx ∧ Box wx p13 #[.bool na, .slice aa an ac, .int .i64 aE] ∧ Box wx p14 #[.bool nb, .slice ba bn bc, .int .i64 bE] ∧ DV wx (.agg #[.bool na, .slice aa an ac, .int .i64 aE]) (S j) (-150) (150 + j) ∧ DV wx (.agg #[.bool nb, .slice ba bn bc, .int .i64 bE]) (T j) (-150) (150 + j) ∧ dNot (.agg #[.bool na, .slice aa an ac, .int .i64 aE]) [p13, p14] ∧ dNot (.agg #[.bool nb, .slice ba bn bc, .int .i64 bE]) [p13, p14]) (fun c _ => n - (intOf c).toNat)
        case atStart => exact ⟨0, g13, a13, n13, c13, E13, g14, a14, n14, c14, E14, Nat.zero_le _, rfl, gV', bx13', bx14', hd13.mono (by decide) (by decide), hd14.mono (by decide) (by decide), q13, q14⟩
        case round =>
          clear bx13 bx14 hd13 hd14 q13 q14 bx13' bx14' gV'
          obtain ⟨j, na, aa, an, ac, aE, nb, ba, bn, bc, bE, hj, rfl, gw, B13, B14, hDa, hDb, qa, qb⟩ := hrel
          have z13 := B13.lt
          have z14 := B14.lt
          have t13 := B13.cell
          have t14 := B14.cell
          have r13 := B13.frozen
          have r14 := B14.frozen
          have gw1 : Grew w1 wr := Grew.trans g2 gw
          have zwr : U0.heap.size ≤ wr.heap.size := gw.below.size
          by_cases hjR : j < n
          · obtain ⟨bX, hfX, hbX⟩ := hXb j hjR
            have hbXw := hbX _ gw1
            have kX : bx < wr.heap.size := Nat.lt_of_lt_of_le kbx1 gw1.below.size
            have hjX : j < lX := by omega
            have tT := HBT _ gw1
            have kT' : kT < wr.heap.size := Nat.lt_of_lt_of_le kBT gw1.below.size
            go_wp2
            refine wp_region_JD [0, 17] (wr) [.val (fun v => v = .agg #[.int .i64 lY, .int .i64 n, .slice (some ⟨g, 0, none⟩) (lY * n) (lY * n)]), .val (fun v => v = .int .i64 i), .val (fun v => v = .int .i64 j), .val (fun v => ∃ b, v = .float .f64 b ∧ IsF b (TT.getD (i * n + j) 0)), .dv (val (TT.getD (i * n + j) 0)) (-70) (70), .val (fun v => v = .slice (some ⟨bx, ox, none⟩) lX cX), .val (fun v => v = .int .i64 j), .val (fun v => v = .pointer (some ⟨bx, ox + j, none⟩)), .val (fun v => v = .float .f64 bX), .dv (val (X.getD j 0)) (-70) (70), .dv (val (TT.getD (i * n + j) 0) * val (X.getD j 0)) (-140) (141), .box, .put 17 (val (TT.getD (i * n + j) 0) * val (X.getD j 0)) (-140) (141)] [117, 118, 119, 120, 121, 122, 123, 124, 125, 126, 127, 17] (by kernel_rfl) (by kernel_rfl) (by (show Grew _ _; (try simp only [← Array.append_assoc]); repeat (first | (with_reducible exact Grew.same_o) | (with_reducible exact Grew.refl _) | (with_reducible assumption) | (with_reducible refine Grew.alloc ?_ _) | (with_reducible refine Grew.app_r ?_) | ((with_reducible refine Grew.setCell ?_ ?_ _); rotate_left; (focus (dsimp only; first | omega | (simp only [size_ext, World.size_alloc, Array.size_append]; omega)))) | (with_reducible refine Grew.ext ?_ _ _) | (with_reducible refine Grew.drewN ?_ _) | (with_reducible refine Grew.drew ?_)))) ?_ (fun ρ own V gV h0F hF => ?_)
            · refine stepsD_cons (j := 1) rfl ?_ ?_
              · intro L ρ own u hS K hK
                obtain ⟨o', n', hu⟩ := hS.grew
                subst hu
                simp only [mkA_cons, mkA_nil, List.setIfInBounds_toArray, List.set_cons_zero, List.set_cons_succ]
                go_wp2_with fail
                exact hS.val rfl rfl (by kernel_rfl) (by (show Grew _ _; (try simp only [← Array.append_assoc]); repeat (first | (with_reducible exact Grew.same_o) | (with_reducible exact Grew.refl _) | (with_reducible assumption) | (with_reducible refine Grew.alloc ?_ _) | (with_reducible refine Grew.app_r ?_) | ((with_reducible refine Grew.setCell ?_ ?_ _); rotate_left; (focus (dsimp only; first | omega | (simp only [size_ext, World.size_alloc, Array.size_append]; omega)))) | (with_reducible refine Grew.ext ?_ _ _) | (with_reducible refine Grew.drewN ?_ _) | (with_reducible refine Grew.drew ?_)))) (by first | rfl | assumption) (by simp only [mkA_cons, mkA_nil, List.setIfInBounds_toArray, List.set_cons_zero, List.set_cons_succ, *] )
              refine stepsD_cons (j := 2) rfl ?_ ?_
              · intro L ρ own u hS K hK
                obtain ⟨o', n', hu⟩ := hS.grew
                subst hu
                simp only [mkA_cons, mkA_nil, List.setIfInBounds_toArray, List.set_cons_zero, List.set_cons_succ]
                go_wp2_with fail
                exact hS.val rfl rfl (by kernel_rfl) (by (show Grew _ _; (try simp only [← Array.append_assoc]); repeat (first | (with_reducible exact Grew.same_o) | (with_reducible exact Grew.refl _) | (with_reducible assumption) | (with_reducible refine Grew.alloc ?_ _) | (with_reducible refine Grew.app_r ?_) | ((with_reducible refine Grew.setCell ?_ ?_ _); rotate_left; (focus (dsimp only; first | omega | (simp only [size_ext, World.size_alloc, Array.size_append]; omega)))) | (with_reducible refine Grew.ext ?_ _ _) | (with_reducible refine Grew.drewN ?_ _) | (with_reducible refine Grew.drew ?_)))) (by first | rfl | assumption) (by simp only [mkA_cons, mkA_nil, List.setIfInBounds_toArray, List.set_cons_zero, List.set_cons_succ, *] )
              refine stepsD_cons (j := 3) rfl ?_ ?_
              · intro L ρ own u hS K hK
                obtain ⟨o', n', hu⟩ := hS.grew
                subst hu
                simp only [mkA_cons, mkA_nil, List.setIfInBounds_toArray, List.set_cons_zero, List.set_cons_succ]
                go_wp2_with fail
                exact hS.val rfl rfl (by kernel_rfl) (by (show Grew _ _; (try simp only [← Array.append_assoc]); repeat (first | (with_reducible exact Grew.same_o) | (with_reducible exact Grew.refl _) | (with_reducible assumption) | (with_reducible refine Grew.alloc ?_ _) | (with_reducible refine Grew.app_r ?_) | ((with_reducible refine Grew.setCell ?_ ?_ _); rotate_left; (focus (dsimp only; first | omega | (simp only [size_ext, World.size_alloc, Array.size_append]; omega)))) | (with_reducible refine Grew.ext ?_ _ _) | (with_reducible refine Grew.drewN ?_ _) | (with_reducible refine Grew.drew ?_)))) (by first | rfl | assumption) (by simp only [mkA_cons, mkA_nil, List.setIfInBounds_toArray, List.set_cons_zero, List.set_cons_succ, *] )
              refine stepsD_cons (j := 4) rfl ?_ ?_
              · intro L ρ own u hS K hK
                have e0 := hS.fact 0 rfl rfl (by kernel_rfl)
                change ρ 117 = _ at e0
                have e1 := hS.fact 1 rfl rfl (by kernel_rfl)
                change ρ 118 = _ at e1
                have e2 := hS.fact 2 rfl rfl (by kernel_rfl)
                change ρ 119 = _ at e2
                obtain ⟨o', n', hu⟩ := hS.grew
                subst hu
                simp only [mkA_cons, mkA_nil, List.setIfInBounds_toArray, List.set_cons_zero, List.set_cons_succ]
                go_wp2_with (first | (go_at_call 72; ((with_reducible refine (hAt i j _ hlt hjR (Grew.trans gw1 (by (show Grew _ _; (try simp only [← Array.append_assoc]); repeat (first | (with_reducible exact Grew.same_o) | (with_reducible exact Grew.refl _) | (with_reducible assumption) | (with_reducible refine Grew.alloc ?_ _) | (with_reducible refine Grew.app_r ?_) | ((with_reducible refine Grew.setCell ?_ ?_ _); rotate_left; (focus (dsimp only; first | omega | (simp only [size_ext, World.size_alloc, Array.size_append]; omega)))) | (with_reducible refine Grew.ext ?_ _ _) | (with_reducible refine Grew.drewN ?_ _) | (with_reducible refine Grew.drew ?_)))))).mono ?_); rintro e w1 ⟨r, rfl, hr, o1, n1, rfl⟩)))
                exact hS.val rfl rfl (by kernel_rfl) (by (show Grew _ _; (try simp only [← Array.append_assoc]); repeat (first | (with_reducible exact Grew.same_o) | (with_reducible exact Grew.refl _) | (with_reducible assumption) | (with_reducible refine Grew.alloc ?_ _) | (with_reducible refine Grew.app_r ?_) | ((with_reducible refine Grew.setCell ?_ ?_ _); rotate_left; (focus (dsimp only; first | omega | (simp only [size_ext, World.size_alloc, Array.size_append]; omega)))) | (with_reducible refine Grew.ext ?_ _ _) | (with_reducible refine Grew.drewN ?_ _) | (with_reducible refine Grew.drew ?_)))) ⟨_, rfl, hr⟩ (by simp only [mkA_cons, mkA_nil, List.setIfInBounds_toArray, List.set_cons_zero, List.set_cons_succ, *] )
              refine stepsD_cons (j := 5) rfl ?_ ?_
              · intro L ρ own u hS K hK
                obtain ⟨b3, e3, hb3⟩ := hS.fact 3 rfl rfl (by kernel_rfl)
                change ρ 120 = _ at e3
                obtain ⟨o', n', hu⟩ := hS.grew
                subst hu
                simp only [mkA_cons, mkA_nil, List.setIfInBounds_toArray, List.set_cons_zero, List.set_cons_succ]
                go_wp2_with (first | (go_at_call 27; ((with_reducible refine (of_any b3 _ _ hb3).mono ?_); rintro e w1 ⟨v, rfl, hv, hk, o1, n1, rfl⟩; (obtain ⟨v1, v2, v3, v4, v5, rfl⟩ := hv.shape))))
                try simp only [drew_ext, drewN_ext, ext_ext] at hv
                exact hS.dv rfl rfl (by kernel_rfl) (by (show Grew _ _; (try simp only [← Array.append_assoc]); repeat (first | (with_reducible exact Grew.same_o) | (with_reducible exact Grew.refl _) | (with_reducible assumption) | (with_reducible refine Grew.alloc ?_ _) | (with_reducible refine Grew.app_r ?_) | ((with_reducible refine Grew.setCell ?_ ?_ _); rotate_left; (focus (dsimp only; first | omega | (simp only [size_ext, World.size_alloc, Array.size_append]; omega)))) | (with_reducible refine Grew.ext ?_ _ _) | (with_reducible refine Grew.drewN ?_ _) | (with_reducible refine Grew.drew ?_)))) hv (fun k h1 h2 => .inl (by have := hk k h1; simp only [size_ext] at *; omega)) (by simp only [mkA_cons, mkA_nil, List.setIfInBounds_toArray, List.set_cons_zero, List.set_cons_succ, *] )
              refine stepsD_cons (j := 6) rfl ?_ ?_
              · intro L ρ own u hS K hK
                obtain ⟨o', n', hu⟩ := hS.grew
                subst hu
                simp only [mkA_cons, mkA_nil, List.setIfInBounds_toArray, List.set_cons_zero, List.set_cons_succ]
                go_wp2_with fail
                exact hS.val rfl rfl (by kernel_rfl) (by (show Grew _ _; (try simp only [← Array.append_assoc]); repeat (first | (with_reducible exact Grew.same_o) | (with_reducible exact Grew.refl _) | (with_reducible assumption) | (with_reducible refine Grew.alloc ?_ _) | (with_reducible refine Grew.app_r ?_) | ((with_reducible refine Grew.setCell ?_ ?_ _); rotate_left; (focus (dsimp only; first | omega | (simp only [size_ext, World.size_alloc, Array.size_append]; omega)))) | (with_reducible refine Grew.ext ?_ _ _) | (with_reducible refine Grew.drewN ?_ _) | (with_reducible refine Grew.drew ?_)))) (by first | rfl | assumption) (by simp only [mkA_cons, mkA_nil, List.setIfInBounds_toArray, List.set_cons_zero, List.set_cons_succ, *] )
              refine stepsD_cons (j := 7) rfl ?_ ?_
              · intro L ρ own u hS K hK
                obtain ⟨o', n', hu⟩ := hS.grew
                subst hu
                simp only [mkA_cons, mkA_nil, List.setIfInBounds_toArray, List.set_cons_zero, List.set_cons_succ]
                go_wp2_with fail
                exact hS.val rfl rfl (by kernel_rfl) (by (show Grew _ _; (try simp only [← Array.append_assoc]); repeat (first | (with_reducible exact Grew.same_o) | (with_reducible exact Grew.refl _) | (with_reducible assumption) | (with_reducible refine Grew.alloc ?_ _) | (with_reducible refine Grew.app_r ?_) | ((with_reducible refine Grew.setCell ?_ ?_ _); rotate_left; (focus (dsimp only; first | omega | (simp only [size_ext, World.size_alloc, Array.size_append]; omega)))) | (with_reducible refine Grew.ext ?_ _ _) | (with_reducible refine Grew.drewN ?_ _) | (with_reducible refine Grew.drew ?_)))) (by first | rfl | assumption) (by simp only [mkA_cons, mkA_nil, List.setIfInBounds_toArray, List.set_cons_zero, List.set_cons_succ, *] )
              refine stepsD_cons (j := 8) rfl ?_ ?_
              · intro L ρ own u hS K hK
                have e5 := hS.fact 5 rfl rfl (by kernel_rfl)
                change ρ 122 = _ at e5
                have e6 := hS.fact 6 rfl rfl (by kernel_rfl)
                change ρ 123 = _ at e6
                obtain ⟨o', n', hu⟩ := hS.grew
                subst hu
                simp only [mkA_cons, mkA_nil, List.setIfInBounds_toArray, List.set_cons_zero, List.set_cons_succ]
                go_wp2_with fail
                exact hS.val rfl rfl (by kernel_rfl) (by (show Grew _ _; (try simp only [← Array.append_assoc]); repeat (first | (with_reducible exact Grew.same_o) | (with_reducible exact Grew.refl _) | (with_reducible assumption) | (with_reducible refine Grew.alloc ?_ _) | (with_reducible refine Grew.app_r ?_) | ((with_reducible refine Grew.setCell ?_ ?_ _); rotate_left; (focus (dsimp only; first | omega | (simp only [size_ext, World.size_alloc, Array.size_append]; omega)))) | (with_reducible refine Grew.ext ?_ _ _) | (with_reducible refine Grew.drewN ?_ _) | (with_reducible refine Grew.drew ?_)))) (by first | rfl | assumption) (by simp only [mkA_cons, mkA_nil, List.setIfInBounds_toArray, List.set_cons_zero, List.set_cons_succ, *] )
              refine stepsD_cons (j := 9) rfl ?_ ?_
              · intro L ρ own u hS K hK
                have e7 := hS.fact 7 rfl rfl (by kernel_rfl)
                change ρ 124 = _ at e7
                obtain ⟨o', n', hu⟩ := hS.grew
                subst hu
                simp only [mkA_cons, mkA_nil, List.setIfInBounds_toArray, List.set_cons_zero, List.set_cons_succ]
                go_wp2_with fail
                exact hS.val rfl rfl (by kernel_rfl) (by (show Grew _ _; (try simp only [← Array.append_assoc]); repeat (first | (with_reducible exact Grew.same_o) | (with_reducible exact Grew.refl _) | (with_reducible assumption) | (with_reducible refine Grew.alloc ?_ _) | (with_reducible refine Grew.app_r ?_) | ((with_reducible refine Grew.setCell ?_ ?_ _); rotate_left; (focus (dsimp only; first | omega | (simp only [size_ext, World.size_alloc, Array.size_append]; omega)))) | (with_reducible refine Grew.ext ?_ _ _) | (with_reducible refine Grew.drewN ?_ _) | (with_reducible refine Grew.drew ?_)))) (by first | rfl | assumption) (by simp only [mkA_cons, mkA_nil, List.setIfInBounds_toArray, List.set_cons_zero, List.set_cons_succ, *] )
              refine stepsD_cons (j := 10) rfl ?_ ?_
              · intro L ρ own u hS K hK
                obtain ⟨g4, a4, n4, c4, E4, e4, hv4, hs4⟩ := dvOut (hS.fact 4 rfl rfl (by kernel_rfl))
                change ρ 121 = _ at e4
                have e8 := hS.fact 8 rfl rfl (by kernel_rfl)
                change ρ 125 = _ at e8
                obtain ⟨o', n', hu⟩ := hS.grew
                subst hu
                simp only [mkA_cons, mkA_nil, List.setIfInBounds_toArray, List.set_cons_zero, List.set_cons_succ]
                go_wp2_with (first | (go_at_call 27; ((with_reducible refine (of_any bX _ _ hfX).mono ?_); rintro e w1 ⟨v, rfl, hv, hk, o1, n1, rfl⟩; (obtain ⟨v1, v2, v3, v4, v5, rfl⟩ := hv.shape))))
                try simp only [drew_ext, drewN_ext, ext_ext] at hv
                exact hS.dv rfl rfl (by kernel_rfl) (by (show Grew _ _; (try simp only [← Array.append_assoc]); repeat (first | (with_reducible exact Grew.same_o) | (with_reducible exact Grew.refl _) | (with_reducible assumption) | (with_reducible refine Grew.alloc ?_ _) | (with_reducible refine Grew.app_r ?_) | ((with_reducible refine Grew.setCell ?_ ?_ _); rotate_left; (focus (dsimp only; first | omega | (simp only [size_ext, World.size_alloc, Array.size_append]; omega)))) | (with_reducible refine Grew.ext ?_ _ _) | (with_reducible refine Grew.drewN ?_ _) | (with_reducible refine Grew.drew ?_)))) hv (fun k h1 h2 => .inl (by have := hk k h1; simp only [size_ext] at *; omega)) (by simp only [mkA_cons, mkA_nil, List.setIfInBounds_toArray, List.set_cons_zero, List.set_cons_succ, *] )
              refine stepsD_cons (j := 11) rfl ?_ ?_
              · intro L ρ own u hS K hK
                obtain ⟨g4, a4, n4, c4, E4, e4, hv4, hs4⟩ := dvOut (hS.fact 4 rfl rfl (by kernel_rfl))
                change ρ 121 = _ at e4
                obtain ⟨g9, a9, n9, c9, E9, e9, hv9, hs9⟩ := dvOut (hS.fact 9 rfl rfl (by kernel_rfl))
                change ρ 126 = _ at e9
                obtain ⟨o', n', hu⟩ := hS.grew
                subst hu
                simp only [mkA_cons, mkA_nil, List.setIfInBounds_toArray, List.set_cons_zero, List.set_cons_succ]
                go_wp2_with (first | (go_at_call 28; ((with_reducible refine (dmul_any _ _ _ _ (-70) 70 (-70) 70 _ hv4 hv9 (by decide) (by decide) (by decide) (by decide)).mono ?_); rintro e w1 ⟨v, rfl, hv, hk, o1, n1, rfl⟩; (obtain ⟨v1, v2, v3, v4, v5, rfl⟩ := hv.shape))))
                try simp only [drew_ext, drewN_ext, ext_ext] at hv
                exact hS.dv rfl rfl (by kernel_rfl) (by (show Grew _ _; (try simp only [← Array.append_assoc]); repeat (first | (with_reducible exact Grew.same_o) | (with_reducible exact Grew.refl _) | (with_reducible assumption) | (with_reducible refine Grew.alloc ?_ _) | (with_reducible refine Grew.app_r ?_) | ((with_reducible refine Grew.setCell ?_ ?_ _); rotate_left; (focus (dsimp only; first | omega | (simp only [size_ext, World.size_alloc, Array.size_append]; omega)))) | (with_reducible refine Grew.ext ?_ _ _) | (with_reducible refine Grew.drewN ?_ _) | (with_reducible refine Grew.drew ?_)))) hv (fun k h1 h2 => .inl (by have := hk k h1; simp only [size_ext] at *; omega)) (by simp only [mkA_cons, mkA_nil, List.setIfInBounds_toArray, List.set_cons_zero, List.set_cons_succ, *] )
              refine stepsD_cons (j := 12) rfl ?_ ?_
              · intro L ρ own u hS K hK
                simp only [mkA_cons, mkA_nil, List.setIfInBounds_toArray, List.set_cons_zero, List.set_cons_succ]
                go_wp2_with fail
                exact hS.box rfl rfl (by kernel_rfl) rfl (by simp only [mkA_cons, mkA_nil, List.setIfInBounds_toArray, List.set_cons_zero, List.set_cons_succ, *] )
              refine stepsD_cons (j := 13) rfl ?_ ?_
              · intro L ρ own u hS K hK
                exact hS.put (kb := 11) (kr := 10) rfl rfl (by kernel_rfl) (by decide) rfl rfl (by kernel_rfl) rfl rfl rfl (by kernel_rfl) rfl rfl (by simp only [mkA_cons, mkA_nil, List.setIfInBounds_toArray, List.set_cons_zero, List.set_cons_succ]; rfl) (by simp only [mkA_cons, mkA_nil, List.setIfInBounds_toArray, List.set_cons_zero, List.set_cons_succ]; rfl) (by kernel_rfl) hK
              exact stepsD_nil
            obtain ⟨p12, g12, a12, n12, c12, E12, e12, zl12, ow12, bx12, hd12, sf12⟩ := putOut (hF 12 _ _ rfl rfl)
            have ce12 := bx12.cell
            have fr12 := bx12.frozen
            have zr12 := bx12.lt
            have nw12 := safeNew sf12 h0F (by simp)
            change ρ 17 = _ at e12
            have y0 := hF 0 _ _ rfl rfl
            change ρ 117 = _ at y0
            have y1 := hF 1 _ _ rfl rfl
            change ρ 118 = _ at y1
            have y2 := hF 2 _ _ rfl rfl
            change ρ 119 = _ at y2
            have y5 := hF 5 _ _ rfl rfl
            change ρ 122 = _ at y5
            have y6 := hF 6 _ _ rfl rfl
            change ρ 123 = _ at y6
            have y7 := hF 7 _ _ rfl rfl
            change ρ 124 = _ at y7
            have y8 := hF 8 _ _ rfl rfl
            change ρ 125 = _ at y8
            simp only [mkA_cons, mkA_nil, List.setIfInBounds_toArray, List.set_cons_zero, List.set_cons_succ, e12, y0, y1, y2, y5, y6, y7, y8]
            have gw2 : Grew U0 V := Grew.trans gw gV
            have C13 := B13.grew gV
            have C14 := B14.grew gV
            have hDa' := hDa.grew gV
            have hDb' := hDb.grew gV
            have zSS : ∀ k, k ∈ [p13, p14] → k < wr.heap.size := fun k hk => by
              simp only [List.mem_cons, List.not_mem_nil, or_false] at hk
              omega
            have qp : dNot (.agg #[.bool g12, .slice a12 n12 c12, .int .i64 E12]) [p13, p14] := dNot.of_new nw12 zSS
            have n12' : p12 ∉ [p13, p14] := fun h => by have := zSS _ h; omega
            have u13 := C13.cell
            have u14 := C14.cell
            have v13 := C13.frozen
            have zV := gV.below.size
            have y13 : p13 < V.heap.size := by omega
            have y14 : p14 < V.heap.size := by omega
            have zwV : U0.heap.size ≤ V.heap.size := gw2.below.size
            clear hF h0F sf12 nw12 ow12 B13 B14 t13 t14 r13 r14 hDa hDb hbX hbXw gV gw1 tT kT' kX
            go_upto_region 23 with (first | (go_at_call 31; ((with_reducible refine (dadd_any _ _ _ _ (-150) (150 + j) _ (hDa'.grew (by (show Grew _ _; (try simp only [← Array.append_assoc]); repeat (first | (with_reducible exact Grew.same_o) | (with_reducible exact Grew.refl _) | (with_reducible assumption) | (with_reducible refine Grew.alloc ?_ _) | (with_reducible refine Grew.app_r ?_) | ((with_reducible refine Grew.setCell ?_ ?_ _); rotate_left; (focus (dsimp only; first | omega | (simp only [size_ext, World.size_alloc, Array.size_append]; omega)))) | (with_reducible refine Grew.ext ?_ _ _) | (with_reducible refine Grew.drewN ?_ _) | (with_reducible refine Grew.drew ?_))))) ((hd12.grew (by (show Grew _ _; (try simp only [← Array.append_assoc]); repeat (first | (with_reducible exact Grew.same_o) | (with_reducible exact Grew.refl _) | (with_reducible assumption) | (with_reducible refine Grew.alloc ?_ _) | (with_reducible refine Grew.app_r ?_) | ((with_reducible refine Grew.setCell ?_ ?_ _); rotate_left; (focus (dsimp only; first | omega | (simp only [size_ext, World.size_alloc, Array.size_append]; omega)))) | (with_reducible refine Grew.ext ?_ _ _) | (with_reducible refine Grew.drewN ?_ _) | (with_reducible refine Grew.drew ?_))))).mono (by omega) (by omega)) (by omega) (by omega)).mono ?_); rintro e w1 ⟨r2, rfl, hr2, hk2, o2, n2, rfl⟩; (obtain ⟨s1, s2, s3, s4, s5, rfl⟩ := hr2.shape))))
            refine name_any (fun U hU => ?_)
            rw [C13.set3_ext rfl] at hU
            have hr2x : DV (ext V o2 n2) (.agg #[.bool s1, .slice s2 s3 s4, .int .i64 s5]) (S j + val (TT.getD (i * n + j) 0) * val (X.getD j 0)) (-150) (150 + j + 1) := hr2
            have q2 : dNot (.agg #[.bool s1, .slice s2 s3 s4, .int .i64 s5]) [p13, p14] := dNot.of_new (b := V.heap.size) (fun k h1 _ => hk2 k h1) (fun k hk => Nat.lt_of_lt_of_le (zSS k hk) zV)
            have gE : Grew V (ext V o2 n2) := ⟨_, _, rfl⟩
            have gU : Grew U0 U := by rw [← hU]; exact (Grew.trans gw2 gE).upd (by omega) _
            have D13 : Box U p13 #[.bool s1, .slice s2 s3 s4, .int .i64 s5] := by rw [← hU]; exact (C13.grew gE).upd_self _
            have D14 : Box U p14 #[.bool nb, .slice ba bn bc, .int .i64 bE] := by rw [← hU]; exact (C14.grew gE).upd_ne (fun e => hne e.symm) _
            have D12 : Box U p12 #[.bool g12, .slice a12 n12 c12, .int .i64 E12] := by rw [← hU]; exact (bx12.grew gE).upd_ne (fun e => n12' (by rw [e]; simp)) _
            have hp3 : DV U (.agg #[.bool g12, .slice a12 n12 c12, .int .i64 E12]) (val (TT.getD (i * n + j) 0) * val (X.getD j 0)) (-140) 141 := by rw [← hU]; exact (hd12.grew gE).upd_not qp (by simp) _
            have hb3 : DV U (.agg #[.bool nb, .slice ba bn bc, .int .i64 bE]) (T j) (-150) (150 + j) := by rw [← hU]; exact (hDb'.grew gE).upd_not qb (by simp) _
            have ha3 : DV U (.agg #[.bool s1, .slice s2 s3 s4, .int .i64 s5]) (S j + val (TT.getD (i * n + j) 0) * val (X.getD j 0)) (-150) (150 + j + 1) := by rw [← hU]; exact hr2x.upd_not q2 (by simp) _
            have zU : V.heap.size ≤ U.heap.size := by rw [← hU]; simp only [size_upd, size_ext]; omega
            clear hU hr2 hr2x hk2 gE C13 C14 bx12 hd12 hDa' hDb' u13 u14 v13 qa qb qp ce12 fr12
            have t13 := D13.cell
            have t14 := D14.cell
            have t12 := D12.cell
            have r14 := D14.frozen
            have k12 := D12.lt
            have k13 := D13.lt
            have k14 := D14.lt
            go_wp2
            refine wp_region_R (Grew U) [4] [(0,0), (0,1), (1,2), (1,3), (2,4)] (by kernel_rfl) (by kernel_rfl) (fun _ _ _ _ h _ => h) (by first | exact ⟨_, _, ext_drew⟩ | exact ⟨_, _, drew_ext0⟩ | (show Grew _ _; repeat (first | (with_reducible exact Grew.refl _) | (with_reducible assumption) | (with_reducible exact Grew.same_o) | (with_reducible exact Grew.app_o) | (with_reducible refine Grew.ext ?_ _ _) | (with_reducible refine Grew.alloc ?_ _) | ((with_reducible refine Grew.setCell ?_ ?_ _); rotate_left; (focus (dsimp only; first | omega | (simp only [size_ext, World.size_alloc, Array.size_append]; omega)))) | (with_reducible refine Grew.drewN ?_ _) | (with_reducible refine Grew.drew ?_)))) ?_
            go_wp2_with (first | ((with_reducible refine wpR_id ?_); first | (refine wpR_take (v := ?_) rfl rfl ?_ ?_; rotate_left; (focus (rintro w' ⟨o', n', rfl⟩; go_simp; try with_reducible rfl)); simp only [Act.put, List.setIfInBounds_toArray, List.set_cons_zero, List.set_cons_succ]) | (refine wpR_pure (v := ?_) rfl rfl ?_ ?_; rotate_left; (focus (intro w'; go_simp; try with_reducible rfl)); simp only [Act.put, List.setIfInBounds_toArray, List.set_cons_zero, List.set_cons_succ]) | (refine wpR_takeG (v := ?_) rfl rfl rfl rfl rfl ?_ ?_; rotate_left; (focus (rintro w' ⟨o', n', rfl⟩; go_simp; try with_reducible rfl)); simp only [Act.put, List.setIfInBounds_toArray, List.set_cons_zero, List.set_cons_succ]) | (refine wpR_skip rfl rfl rfl rfl rfl rfl ?_; simp only [Act.put, List.setIfInBounds_toArray, List.set_cons_zero, List.set_cons_succ]) | (refine wpR_skipU rfl rfl rfl rfl rfl ?_; simp only [Act.put, List.setIfInBounds_toArray, List.set_cons_zero, List.set_cons_succ]) | (refine wpR_do rfl rfl (fun K hK => ?_)) | (refine wpR_doG rfl rfl rfl rfl rfl (fun K hK => ?_)) | (refine wpR_last rfl rfl (fun K hK => ?_)) | (refine wpR_nil ?_)) | ((with_reducible refine wpR_go ?_ ?_); (focus (show Grew _ _; repeat (first | (with_reducible exact Grew.refl _) | (with_reducible assumption) | (with_reducible exact Grew.same_o) | (with_reducible exact Grew.app_o) | (with_reducible refine Grew.ext ?_ _ _) | (with_reducible refine Grew.alloc ?_ _) | ((with_reducible refine Grew.setCell ?_ ?_ _); rotate_left; (focus (dsimp only; first | omega | (simp only [size_ext, World.size_alloc, Array.size_append]; omega)))) | (with_reducible refine Grew.drewN ?_ _) | (with_reducible refine Grew.drew ?_))))) | ((with_reducible refine upon_id ?_); refine upon_fop rfl (by assumption) (by assumption) ?_; intro rr nn hr) | (go_at_call 30; ((with_reducible refine (dabs_any _ _ _ _ _ (hp3.grew (by (show Grew _ _; (try simp only [← Array.append_assoc]); repeat (first | (with_reducible exact Grew.same_o) | (with_reducible exact Grew.refl _) | (with_reducible assumption) | (with_reducible refine Grew.alloc ?_ _) | (with_reducible refine Grew.app_r ?_) | ((with_reducible refine Grew.setCell ?_ ?_ _); rotate_left; (focus (dsimp only; first | omega | (simp only [size_ext, World.size_alloc, Array.size_append]; omega)))) | (with_reducible refine Grew.ext ?_ _ _) | (with_reducible refine Grew.drewN ?_ _) | (with_reducible refine Grew.drew ?_)))))).mono ?_); rintro e w1 ⟨r5, rfl, hr5, hk5, o5, n5, rfl⟩; (obtain ⟨x1, x2, x3, x4, x5, rfl⟩ := hr5.shape); (try simp only [drew_ext, drewN_ext, ext_ext] at hr5))) | (go_at_call 31; ((with_reducible refine (dadd_any _ _ _ _ (-150) (150 + j) _ (hb3.grew (by (show Grew _ _; (try simp only [← Array.append_assoc]); repeat (first | (with_reducible exact Grew.same_o) | (with_reducible exact Grew.refl _) | (with_reducible assumption) | (with_reducible refine Grew.alloc ?_ _) | (with_reducible refine Grew.app_r ?_) | ((with_reducible refine Grew.setCell ?_ ?_ _); rotate_left; (focus (dsimp only; first | omega | (simp only [size_ext, World.size_alloc, Array.size_append]; omega)))) | (with_reducible refine Grew.ext ?_ _ _) | (with_reducible refine Grew.drewN ?_ _) | (with_reducible refine Grew.drew ?_))))) ((hr5.grew (by (show Grew _ _; (try simp only [← Array.append_assoc]); repeat (first | (with_reducible exact Grew.same_o) | (with_reducible exact Grew.refl _) | (with_reducible assumption) | (with_reducible refine Grew.alloc ?_ _) | (with_reducible refine Grew.app_r ?_) | ((with_reducible refine Grew.setCell ?_ ?_ _); rotate_left; (focus (dsimp only; first | omega | (simp only [size_ext, World.size_alloc, Array.size_append]; omega)))) | (with_reducible refine Grew.ext ?_ _ _) | (with_reducible refine Grew.drewN ?_ _) | (with_reducible refine Grew.drew ?_))))).mono (by omega) (by omega)) (by omega) (by omega)).mono ?_); rintro e w1 ⟨r6, rfl, hr6, hk6, o6, n6, rfl⟩; (obtain ⟨y1, y2, y3, y4, y5, rfl⟩ := hr6.shape); (try simp only [drew_ext, drewN_ext, ext_ext] at hr6))))
            go_roundw
            case rel =>
              rw [D14.set3_ext rfl]
              have gX : Grew U (ext U (o5 ++ o6) n6) := ⟨_, _, rfl⟩
              have zS : ∀ k, k ∈ [p13, p14] → k < U.heap.size := fun k hk => Nat.lt_of_lt_of_le (zSS k hk) (Nat.le_trans zV zU)
              have q6 : dNot (.agg #[.bool y1, .slice y2 y3 y4, .int .i64 y5]) [p13, p14] := dNot.of_new (b := U.heap.size) (fun k h1 _ => by have := hk6 k h1; simp only [size_ext] at this; omega) zS
              have hS' : S (j + 1) = S j + val (TT.getD (i * n + j) 0) * val (X.getD j 0) := HS1.out j
              have hT' : T (j + 1) = T j + (val (TT.getD (i * n + j) 0) * val (X.getD j 0)).abs := HT1.out j
              refine ⟨j + 1, s1, s2, s3, s4, s5, y1, y2, y3, y4, y5, hjR, by go_num, (gU.ext _ _).upd (by omega) _, (D13.grew gX).upd_ne hne _, (D14.grew gX).upd_self _, ?_, ?_, q2, q6⟩
              · rw [hS']; exact ((ha3.grew gX).upd_not q2 (by simp) _).mono (by omega) (by omega)
              · rw [hT']; exact (hr6.upd_not q6 (by simp) _).mono (by omega) (by omega)
            case measure => simp [intOf]; omega
          · have e : j = n := by omega
            subst e
            have e1 : IntKind.i64.wrap ((j : Int) + 1) = (j : Int) + 1 := IntWalk.i64_in _ (by omega)
            clear hAt hXb HS1 HT1 qa qb
            go_upto_region 25 with (first | (go_at_call 32; ((with_reducible refine (dshift_any _ _ (-150) 162 (-51) _ ((hDb.grew (by (show Grew _ _; (try simp only [← Array.append_assoc]); repeat (first | (with_reducible exact Grew.same_o) | (with_reducible exact Grew.refl _) | (with_reducible assumption) | (with_reducible refine Grew.alloc ?_ _) | (with_reducible refine Grew.app_r ?_) | ((with_reducible refine Grew.setCell ?_ ?_ _); rotate_left; (focus (dsimp only; first | omega | (simp only [size_ext, World.size_alloc, Array.size_append]; omega)))) | (with_reducible refine Grew.ext ?_ _ _) | (with_reducible refine Grew.drewN ?_ _) | (with_reducible refine Grew.drew ?_))))).mono (by omega) (by omega)) (by decide) (by decide) (by decide)).mono ?_); rintro e w1 ⟨r1, rfl, h1, hk1, o1, n1, rfl⟩; (obtain ⟨r11, r12, r13, r14, r15, rfl⟩ := h1.shape); (try simp only [drew_ext, drewN_ext, ext_ext] at h1))) | (go_at_call 33; ((with_reducible refine (hI1 _).mono ?_); rintro e w1 ⟨r2, rfl, h2, hk2, o2, n2, rfl⟩; (obtain ⟨r21, r22, r23, r24, r25, rfl⟩ := h2.shape); (try simp only [drew_ext, drewN_ext, ext_ext] at h2))) | (go_at_call 32; ((with_reducible refine (dshift_any _ _ 0 4 (-1070) _ (h2.grew (by (show Grew _ _; (try simp only [← Array.append_assoc]); repeat (first | (with_reducible exact Grew.same_o) | (with_reducible exact Grew.refl _) | (with_reducible assumption) | (with_reducible refine Grew.alloc ?_ _) | (with_reducible refine Grew.app_r ?_) | ((with_reducible refine Grew.setCell ?_ ?_ _); rotate_left; (focus (dsimp only; first | omega | (simp only [size_ext, World.size_alloc, Array.size_append]; omega)))) | (with_reducible refine Grew.ext ?_ _ _) | (with_reducible refine Grew.drewN ?_ _) | (with_reducible refine Grew.drew ?_))))) (by decide) (by decide) (by decide)).mono ?_); rintro e w1 ⟨r3, rfl, h3, hk3, o3, n3, rfl⟩; (obtain ⟨r31, r32, r33, r34, r35, rfl⟩ := h3.shape); (try simp only [drew_ext, drewN_ext, ext_ext] at h3))) | (go_at_call 31; ((with_reducible refine (dadd_any _ _ _ _ (-160) 170 _ ((h1.grew (by (show Grew _ _; (try simp only [← Array.append_assoc]); repeat (first | (with_reducible exact Grew.same_o) | (with_reducible exact Grew.refl _) | (with_reducible assumption) | (with_reducible refine Grew.alloc ?_ _) | (with_reducible refine Grew.app_r ?_) | ((with_reducible refine Grew.setCell ?_ ?_ _); rotate_left; (focus (dsimp only; first | omega | (simp only [size_ext, World.size_alloc, Array.size_append]; omega)))) | (with_reducible refine Grew.ext ?_ _ _) | (with_reducible refine Grew.drewN ?_ _) | (with_reducible refine Grew.drew ?_))))).mono (by decide) (by decide)) ((h3.grew (by (show Grew _ _; (try simp only [← Array.append_assoc]); repeat (first | (with_reducible exact Grew.same_o) | (with_reducible exact Grew.refl _) | (with_reducible assumption) | (with_reducible refine Grew.alloc ?_ _) | (with_reducible refine Grew.app_r ?_) | ((with_reducible refine Grew.setCell ?_ ?_ _); rotate_left; (focus (dsimp only; first | omega | (simp only [size_ext, World.size_alloc, Array.size_append]; omega)))) | (with_reducible refine Grew.ext ?_ _ _) | (with_reducible refine Grew.drewN ?_ _) | (with_reducible refine Grew.drew ?_))))).mono (by decide) (by decide)) (by decide) (by decide)).mono ?_); rintro e w1 ⟨r4, rfl, h4, hk4, o4, n4, rfl⟩; (obtain ⟨r41, r42, r43, r44, r45, rfl⟩ := h4.shape); (try simp only [drew_ext, drewN_ext, ext_ext] at h4))) | (go_at_call 33; ((with_reducible refine (hI2 _).mono ?_); rintro e w1 ⟨r5, rfl, h5, hk5, o5, n5, rfl⟩; (obtain ⟨r51, r52, r53, r54, r55, rfl⟩ := h5.shape); (try simp only [drew_ext, drewN_ext, ext_ext] at h5))) | (go_at_call 28; ((with_reducible refine (dmul_any _ _ _ _ (-160) 171 0 4 _ (h4.grew (by (show Grew _ _; (try simp only [← Array.append_assoc]); repeat (first | (with_reducible exact Grew.same_o) | (with_reducible exact Grew.refl _) | (with_reducible assumption) | (with_reducible refine Grew.alloc ?_ _) | (with_reducible refine Grew.app_r ?_) | ((with_reducible refine Grew.setCell ?_ ?_ _); rotate_left; (focus (dsimp only; first | omega | (simp only [size_ext, World.size_alloc, Array.size_append]; omega)))) | (with_reducible refine Grew.ext ?_ _ _) | (with_reducible refine Grew.drewN ?_ _) | (with_reducible refine Grew.drew ?_))))) (h5.grew (by (show Grew _ _; (try simp only [← Array.append_assoc]); repeat (first | (with_reducible exact Grew.same_o) | (with_reducible exact Grew.refl _) | (with_reducible assumption) | (with_reducible refine Grew.alloc ?_ _) | (with_reducible refine Grew.app_r ?_) | ((with_reducible refine Grew.setCell ?_ ?_ _); rotate_left; (focus (dsimp only; first | omega | (simp only [size_ext, World.size_alloc, Array.size_append]; omega)))) | (with_reducible refine Grew.ext ?_ _ _) | (with_reducible refine Grew.drewN ?_ _) | (with_reducible refine Grew.drew ?_))))) (by decide) (by decide) (by decide) (by decide)).mono ?_); rintro e w1 ⟨r6, rfl, h6, hk6, o6, n6, rfl⟩; (obtain ⟨r61, r62, r63, r64, r65, rfl⟩ := h6.shape); (try simp only [drew_ext, drewN_ext, ext_ext] at h6))))
            refine name_any (fun U hU => ?_)
            obtain ⟨k18, hk18⟩ : ∃ k18, k18 = wr.heap.size + (o1.size + (o2.size + (o3.size + (o4.size + (o5.size + o6.size))))) := ⟨_, rfl⟩
            have gU : Grew wr U := by rw [← hU]; (show Grew _ _; (try simp only [← Array.append_assoc]); repeat (first | (with_reducible exact Grew.same_o) | (with_reducible exact Grew.refl _) | (with_reducible assumption) | (with_reducible refine Grew.alloc ?_ _) | (with_reducible refine Grew.app_r ?_) | ((with_reducible refine Grew.setCell ?_ ?_ _); rotate_left; (focus (dsimp only; first | omega | (simp only [size_ext, World.size_alloc, Array.size_append]; omega)))) | (with_reducible refine Grew.ext ?_ _ _) | (with_reducible refine Grew.drewN ?_ _) | (with_reducible refine Grew.drew ?_)))
            have c18 : ∀ i, U.cell? ⟨k18, i, none⟩ = (#[.bool r61, .slice r62 r63 r64, .int .i64 r65] : Array Value)[i]? := by subst hU; rw [hk18]; intro i; go_simp
            have z18 : k18 < U.heap.size := by rw [← hU, hk18]; simp only [World.size_alloc, size_ext, Array.size_append]; omega
            have hM : DV U (.agg #[.bool r61, .slice r62 r63 r64, .int .i64 r65]) ((T j * p2 (-51) + ((1 : Nat) : Rat) * p2 (-1070)) * T1) (-200) 200 := (h6.grew (by rw [← hU]; (show Grew _ _; (try simp only [← Array.append_assoc]); repeat (first | (with_reducible exact Grew.same_o) | (with_reducible exact Grew.refl _) | (with_reducible assumption) | (with_reducible refine Grew.alloc ?_ _) | (with_reducible refine Grew.app_r ?_) | ((with_reducible refine Grew.setCell ?_ ?_ _); rotate_left; (focus (dsimp only; first | omega | (simp only [size_ext, World.size_alloc, Array.size_append]; omega)))) | (with_reducible refine Grew.ext ?_ _ _) | (with_reducible refine Grew.drewN ?_ _) | (with_reducible refine Grew.drew ?_))))).mono (by decide) (by decide)
            have hSU : DV U (.agg #[.bool na, .slice aa an ac, .int .i64 aE]) (S j) (-150) 165 := (hDa.grew gU).mono (by omega) (by omega)
            have u13 : ∀ i, U.cell? ⟨p13, i, none⟩ = (#[.bool na, .slice aa an ac, .int .i64 aE] : Array Value)[i]? := fun i => (gU.cell z13).trans (t13 i)
            have y13 : p13 < U.heap.size := Nat.lt_of_lt_of_le z13 gU.below.size
            have gU0 : Grew U0 U := Grew.trans gw gU
            have gU1 : Grew w1 U := Grew.trans g2 gU0
            have hbzU := hbz _ gU1
            have kgzU : gz < U.heap.size := Nat.lt_of_lt_of_le kgz gU1.below.size
            obtain ⟨QZ, hQZ⟩ : ∃ q, q = val (Z.getD i 0) := ⟨_, rfl⟩
            obtain ⟨QS, hQS⟩ : ∃ q, q = S j := ⟨_, rfl⟩
            obtain ⟨QM, hQM⟩ : ∃ q, q = (T j * p2 (-51) + ((1 : Nat) : Rat) * p2 (-1070)) * T1 := ⟨_, rfl⟩
            have hlw := HLi.out
            rw [← hQZ, ← hQS, ← hQM] at hlw
            rw [← hQS] at hSU
            rw [← hQM] at hM
            have hofz : ∀ w', Calls Try.prog 27 #[.float .f64 bz1] w' (fun e w2 => ∃ v, e = .returned v ∧ DV w2 v QZ (-70) 70 ∧ ∃ o n, w2 = ext w' o n) := fun w' => by
              refine (of_any bz1 _ w' fz).mono fun e w2 hh => ?_
              obtain ⟨v, e1, e2, _, e4⟩ := hh
              rw [← hQZ] at e2
              exact ⟨v, e1, e2, e4⟩
            obtain ⟨ZZ, hZZ⟩ : ∃ ZZ, ZZ = sgE ((QZ - QS).abs - QM) := ⟨_, rfl⟩
            have hZ0 : ZZ ≤ 0 := by
              rw [hZZ]
              unfold sgE
              split
              · decide
              · rename_i h0
                rw [if_pos (by grind)]; decide
            have dZ : decide (0 < ZZ) = false := by simp; omega
            have hcm : ∀ V1 w', DV w' V1 ((QZ - QS).abs) (-200) 200 → Grew U w' → Calls Try.prog 34 #[V1, .agg #[.bool r61, .slice r62 r63 r64, .int .i64 r65]] w' (fun e w2 => e = .returned (.int .i64 ZZ) ∧ ∃ o n, w2 = ext w' o n) := fun V1 w' a1 a2 => by
              rw [hZZ]; exact dcmp_any _ _ _ _ (-200) 200 w' a1 (hM.grew a2) (by decide) (by decide)
            simp only [← hk18]
            have gU0' := gU0
            clear hU hk18 h1 h2 h3 h4 h5 h6 hk1 hk2 hk3 hk4 hk5 hk6 hDa hDb t13 t14 z13 z14 hI1 hI2 hlw hQZ hQS hQM HLi hM hZZ hZ0 gU gU0 gU1 gw gw1 hbz hby B13 B14
            refine wp_region_R (Grew U) [] [(0,0), (0,1), (0,2), (0,3), (0,5), (0,8), (1,4), (1,6), (1,7), (1,9), (0,10)] (by kernel_rfl) (by kernel_rfl) (fun _ _ _ _ h _ => h) (by first | exact ⟨_, _, ext_drew⟩ | exact ⟨_, _, drew_ext0⟩ | (show Grew _ _; repeat (first | (with_reducible exact Grew.refl _) | (with_reducible assumption) | (with_reducible exact Grew.same_o) | (with_reducible exact Grew.app_o) | (with_reducible refine Grew.ext ?_ _ _) | (with_reducible refine Grew.alloc ?_ _) | ((with_reducible refine Grew.setCell ?_ ?_ _); rotate_left; (focus (dsimp only; first | omega | (simp only [size_ext, World.size_alloc, Array.size_append]; omega)))) | (with_reducible refine Grew.drewN ?_ _) | (with_reducible refine Grew.drew ?_)))) ?_
            go_wp2_with (first | ((with_reducible refine wpR_id ?_); first | (refine wpR_take (v := ?_) rfl rfl ?_ ?_; rotate_left; (focus (rintro w' ⟨o', n', rfl⟩; go_simp; try with_reducible rfl)); simp only [Act.put, List.setIfInBounds_toArray, List.set_cons_zero, List.set_cons_succ]) | (refine wpR_pure (v := ?_) rfl rfl ?_ ?_; rotate_left; (focus (intro w'; go_simp; try with_reducible rfl)); simp only [Act.put, List.setIfInBounds_toArray, List.set_cons_zero, List.set_cons_succ]) | (refine wpR_takeG (v := ?_) rfl rfl rfl rfl rfl ?_ ?_; rotate_left; (focus (rintro w' ⟨o', n', rfl⟩; go_simp; try with_reducible rfl)); simp only [Act.put, List.setIfInBounds_toArray, List.set_cons_zero, List.set_cons_succ]) | (refine wpR_skip rfl rfl rfl rfl rfl rfl ?_; simp only [Act.put, List.setIfInBounds_toArray, List.set_cons_zero, List.set_cons_succ]) | (refine wpR_skipU rfl rfl rfl rfl rfl ?_; simp only [Act.put, List.setIfInBounds_toArray, List.set_cons_zero, List.set_cons_succ]) | (refine wpR_do rfl rfl (fun K hK => ?_)) | (refine wpR_doG rfl rfl rfl rfl rfl (fun K hK => ?_)) | (refine wpR_last rfl rfl (fun K hK => ?_)) | (refine wpR_nil ?_)) | ((with_reducible refine wpR_go ?_ ?_); (focus (show Grew _ _; repeat (first | (with_reducible exact Grew.refl _) | (with_reducible assumption) | (with_reducible exact Grew.same_o) | (with_reducible exact Grew.app_o) | (with_reducible refine Grew.ext ?_ _ _) | (with_reducible refine Grew.alloc ?_ _) | ((with_reducible refine Grew.setCell ?_ ?_ _); rotate_left; (focus (dsimp only; first | omega | (simp only [size_ext, World.size_alloc, Array.size_append]; omega)))) | (with_reducible refine Grew.drewN ?_ _) | (with_reducible refine Grew.drew ?_))))) | ((with_reducible refine upon_id ?_); refine upon_fop rfl (by assumption) (by assumption) ?_; intro rr nn hr) | (go_at_call 27; ((with_reducible refine (hofz _).mono ?_); rintro e w1 ⟨x1, rfl, hx1, p1, m1, rfl⟩; (obtain ⟨x11, x12, x13, x14, x15, rfl⟩ := hx1.shape); (try simp only [drew_ext, drewN_ext, ext_ext] at hx1))) | (go_at_call 29; ((with_reducible refine (dsub_any _ _ _ _ (-150) 165 _ ((hx1.grew (by (show Grew _ _; (try simp only [← Array.append_assoc]); repeat (first | (with_reducible exact Grew.same_o) | (with_reducible exact Grew.refl _) | (with_reducible assumption) | (with_reducible refine Grew.alloc ?_ _) | (with_reducible refine Grew.app_r ?_) | ((with_reducible refine Grew.setCell ?_ ?_ _); rotate_left; (focus (dsimp only; first | omega | (simp only [size_ext, World.size_alloc, Array.size_append]; omega)))) | (with_reducible refine Grew.ext ?_ _ _) | (with_reducible refine Grew.drewN ?_ _) | (with_reducible refine Grew.drew ?_))))).mono (by decide) (by decide)) (hSU.grew (by (show Grew _ _; (try simp only [← Array.append_assoc]); repeat (first | (with_reducible exact Grew.same_o) | (with_reducible exact Grew.refl _) | (with_reducible assumption) | (with_reducible refine Grew.alloc ?_ _) | (with_reducible refine Grew.app_r ?_) | ((with_reducible refine Grew.setCell ?_ ?_ _); rotate_left; (focus (dsimp only; first | omega | (simp only [size_ext, World.size_alloc, Array.size_append]; omega)))) | (with_reducible refine Grew.ext ?_ _ _) | (with_reducible refine Grew.drewN ?_ _) | (with_reducible refine Grew.drew ?_))))) (by decide) (by decide)).mono ?_); rintro e w1 ⟨x2, rfl, hx2, hkx2, p2', m2, rfl⟩; (obtain ⟨x21, x22, x23, x24, x25, rfl⟩ := hx2.shape); (try simp only [drew_ext, drewN_ext, ext_ext] at hx2))) | (go_at_call 30; ((with_reducible refine (dabs_any _ _ _ _ _ (hx2.grew (by (show Grew _ _; (try simp only [← Array.append_assoc]); repeat (first | (with_reducible exact Grew.same_o) | (with_reducible exact Grew.refl _) | (with_reducible assumption) | (with_reducible refine Grew.alloc ?_ _) | (with_reducible refine Grew.app_r ?_) | ((with_reducible refine Grew.setCell ?_ ?_ _); rotate_left; (focus (dsimp only; first | omega | (simp only [size_ext, World.size_alloc, Array.size_append]; omega)))) | (with_reducible refine Grew.ext ?_ _ _) | (with_reducible refine Grew.drewN ?_ _) | (with_reducible refine Grew.drew ?_)))))).mono ?_); rintro e w1 ⟨x3, rfl, hx3, hkx3, p3, m3, rfl⟩; (obtain ⟨x31, x32, x33, x34, x35, rfl⟩ := hx3.shape); (try simp only [drew_ext, drewN_ext, ext_ext] at hx3))) | (go_at_call 34; ((with_reducible refine (hcm _ _ ((hx3.grew (by (show Grew _ _; (try simp only [← Array.append_assoc]); repeat (first | (with_reducible exact Grew.same_o) | (with_reducible exact Grew.refl _) | (with_reducible assumption) | (with_reducible refine Grew.alloc ?_ _) | (with_reducible refine Grew.app_r ?_) | ((with_reducible refine Grew.setCell ?_ ?_ _); rotate_left; (focus (dsimp only; first | omega | (simp only [size_ext, World.size_alloc, Array.size_append]; omega)))) | (with_reducible refine Grew.ext ?_ _ _) | (with_reducible refine Grew.drewN ?_ _) | (with_reducible refine Grew.drew ?_))))).mono (by decide) (by decide)) (by (show Grew _ _; (try simp only [← Array.append_assoc]); repeat (first | (with_reducible exact Grew.same_o) | (with_reducible exact Grew.refl _) | (with_reducible assumption) | (with_reducible refine Grew.alloc ?_ _) | (with_reducible refine Grew.app_r ?_) | ((with_reducible refine Grew.setCell ?_ ?_ _); rotate_left; (focus (dsimp only; first | omega | (simp only [size_ext, World.size_alloc, Array.size_append]; omega)))) | (with_reducible refine Grew.ext ?_ _ _) | (with_reducible refine Grew.drewN ?_ _) | (with_reducible refine Grew.drew ?_))))).mono ?_); rintro e w1 ⟨rfl, p4, m4, rfl⟩)))
            go_roundw
            case rel => exact ⟨i + 1, hlt, by go_num, Grew.trans g2 (Grew.trans gU0' (by (show Grew _ _; (try simp only [← Array.append_assoc]); repeat (first | (with_reducible exact Grew.same_o) | (with_reducible exact Grew.refl _) | (with_reducible assumption) | (with_reducible refine Grew.alloc ?_ _) | (with_reducible refine Grew.app_r ?_) | ((with_reducible refine Grew.setCell ?_ ?_ _); rotate_left; (focus (dsimp only; first | omega | (simp only [size_ext, World.size_alloc, Array.size_append]; omega)))) | (with_reducible refine Grew.ext ?_ _ _) | (with_reducible refine Grew.drewN ?_ _) | (with_reducible refine Grew.drew ?_)))))⟩
            case measure => simp [intOf]; omega
      · have e : i = lY := by omega
        subst e
        go_wp2_with (first | (go_at_call 67; ((with_reducible refine (awake07 _).mono ?_); rintro e w9 ⟨rfl, o9, n9, rfl⟩)))
        go_ret
        exact ⟨rfl, Grew.trans g1 (Grew.trans g2 (by (show Grew _ _; (try simp only [← Array.append_assoc]); repeat (first | (with_reducible exact Grew.same_o) | (with_reducible exact Grew.refl _) | (with_reducible assumption) | (with_reducible refine Grew.alloc ?_ _) | (with_reducible refine Grew.app_r ?_) | ((with_reducible refine Grew.setCell ?_ ?_ _); rotate_left; (focus (dsimp only; first | omega | (simp only [size_ext, World.size_alloc, Array.size_append]; omega)))) | (with_reducible refine Grew.ext ?_ _ _) | (with_reducible refine Grew.drewN ?_ _) | (with_reducible refine Grew.drew ?_)))))⟩
end Go.Proofs.Ytcmggfpcbijcjaa
end
section
/-
  The walk of the law GemvClose (layer 7).
-/
set_option linter.unusedSimpArgs false
set_option linter.unusedVariables false
open Go Go.RowKit Sedge
namespace Go.Proofs.Ytcmggfpcbijcjaa
set_option maxRecDepth 100000 in
set_option maxHeartbeats 8000000 in
theorem gemvClose_nat (VL VX VY : Value) (L X Y : List Nat) (u : Nat) (hu : u < 256) (w : World) (hL : FS w VL L) (hX : FS w VX X) (hY : FS w VY Y) :
    Calls Try.prog 8 #[VL, VX, VY, .int .u8 u] w (fun e w' => e = .returned (.bool true) ∧ ∃ o n, w' = ext w o n) := by
  obtain ⟨aL, cL, rfl⟩ := hL.shape
  obtain ⟨aX, cX, rfl⟩ := hX.shape
  obtain ⟨aY, cY, rfl⟩ := hY.shape
  have fL : ∀ w', Grew w w' → Calls Try.prog 25 #[.slice aL L.length cL] w' (fun e w2 => e = .returned (.bool (finL L)) ∧ w' = w2) := fun w' g => finite_any _ L w' (hL.grew g)
  have fX : ∀ w', Grew w w' → Calls Try.prog 25 #[.slice aX X.length cX] w' (fun e w2 => e = .returned (.bool (finL X)) ∧ w' = w2) := fun w' g => finite_any _ X w' (hX.grew g)
  have fY : ∀ w', Grew w w' → Calls Try.prog 25 #[.slice aY Y.length cY] w' (fun e w2 => e = .returned (.bool (finL Y)) ∧ w' = w2) := fun w' g => finite_any _ Y w' (hY.grew g)
  obtain ⟨n, hn⟩ : ∃ n, n = 1 + u % 12 := ⟨_, rfl⟩
  have en : (1 + (u : Int) % 12) = (n : Int) := by omega
  have hn1 : 1 ≤ n := by omega
  have hn12 : n ≤ 12 := by omega
  have HL := hid hL
  have HX := hid hX
  have HY := hid hY
  have Hn := hid hn
  clear hL hX hY hn
  by_cases c1 : X.length < n
  · have d1 : decide ((X.length : Int) < (n : Int)) = true := by simpa using c1
    have d1' : decide (X.length < n) = true := by simpa using c1
    go_enter Try.func8, Try.ntmps8
    go_wp2_with (first | (go_at_call 67; ((with_reducible refine (awake07 _).mono ?_); rintro e w1 ⟨rfl, o1, n1, rfl⟩)) | (go_at_call 25; ((with_reducible refine (fL _ (by (show Grew _ _; (try simp only [← Array.append_assoc]); repeat (first | (with_reducible exact Grew.same_o) | (with_reducible exact Grew.refl _) | (with_reducible assumption) | (with_reducible refine Grew.alloc ?_ _) | (with_reducible refine Grew.app_r ?_) | ((with_reducible refine Grew.setCell ?_ ?_ _); rotate_left; (focus (dsimp only; first | omega | (simp only [size_ext, World.size_alloc, Array.size_append]; omega)))) | (with_reducible refine Grew.ext ?_ _ _) | (with_reducible refine Grew.drewN ?_ _) | (with_reducible refine Grew.drew ?_))))).mono ?_); rintro e w1 ⟨rfl, rfl⟩)) | (go_at_call 25; ((with_reducible refine (fX _ (by (show Grew _ _; (try simp only [← Array.append_assoc]); repeat (first | (with_reducible exact Grew.same_o) | (with_reducible exact Grew.refl _) | (with_reducible assumption) | (with_reducible refine Grew.alloc ?_ _) | (with_reducible refine Grew.app_r ?_) | ((with_reducible refine Grew.setCell ?_ ?_ _); rotate_left; (focus (dsimp only; first | omega | (simp only [size_ext, World.size_alloc, Array.size_append]; omega)))) | (with_reducible refine Grew.ext ?_ _ _) | (with_reducible refine Grew.drewN ?_ _) | (with_reducible refine Grew.drew ?_))))).mono ?_); rintro e w1 ⟨rfl, rfl⟩)) | (go_at_call 25; ((with_reducible refine (fY _ (by (show Grew _ _; (try simp only [← Array.append_assoc]); repeat (first | (with_reducible exact Grew.same_o) | (with_reducible exact Grew.refl _) | (with_reducible assumption) | (with_reducible refine Grew.alloc ?_ _) | (with_reducible refine Grew.app_r ?_) | ((with_reducible refine Grew.setCell ?_ ?_ _); rotate_left; (focus (dsimp only; first | omega | (simp only [size_ext, World.size_alloc, Array.size_append]; omega)))) | (with_reducible refine Grew.ext ?_ _ _) | (with_reducible refine Grew.drewN ?_ _) | (with_reducible refine Grew.drew ?_))))).mono ?_); rintro e w1 ⟨rfl, rfl⟩)))
    go_ret
    exact ⟨rfl, by (show Grew _ _; repeat (first | (with_reducible exact Grew.refl _) | (with_reducible assumption) | (with_reducible exact Grew.same_o) | (with_reducible exact Grew.app_o) | (with_reducible refine Grew.ext ?_ _ _) | (with_reducible refine Grew.alloc ?_ _) | ((with_reducible refine Grew.setCell ?_ ?_ _); rotate_left; (focus (dsimp only; first | omega | (simp only [size_ext, World.size_alloc, Array.size_append]; omega)))) | (with_reducible refine Grew.drewN ?_ _) | (with_reducible refine Grew.drew ?_)))⟩
  · have d1 : decide ((X.length : Int) < (n : Int)) = false := by simpa using c1
    have d1' : decide (X.length < n) = false := by simpa using c1
    by_cases c2 : Y.length = 0
    · have d2 : ((Y.length : Int) == 0) = true := by simpa using c2
      clear c2
      go_enter Try.func8, Try.ntmps8
      go_wp2_with (first | (go_at_call 67; ((with_reducible refine (awake07 _).mono ?_); rintro e w1 ⟨rfl, o1, n1, rfl⟩)) | (go_at_call 25; ((with_reducible refine (fL _ (by (show Grew _ _; (try simp only [← Array.append_assoc]); repeat (first | (with_reducible exact Grew.same_o) | (with_reducible exact Grew.refl _) | (with_reducible assumption) | (with_reducible refine Grew.alloc ?_ _) | (with_reducible refine Grew.app_r ?_) | ((with_reducible refine Grew.setCell ?_ ?_ _); rotate_left; (focus (dsimp only; first | omega | (simp only [size_ext, World.size_alloc, Array.size_append]; omega)))) | (with_reducible refine Grew.ext ?_ _ _) | (with_reducible refine Grew.drewN ?_ _) | (with_reducible refine Grew.drew ?_))))).mono ?_); rintro e w1 ⟨rfl, rfl⟩)) | (go_at_call 25; ((with_reducible refine (fX _ (by (show Grew _ _; (try simp only [← Array.append_assoc]); repeat (first | (with_reducible exact Grew.same_o) | (with_reducible exact Grew.refl _) | (with_reducible assumption) | (with_reducible refine Grew.alloc ?_ _) | (with_reducible refine Grew.app_r ?_) | ((with_reducible refine Grew.setCell ?_ ?_ _); rotate_left; (focus (dsimp only; first | omega | (simp only [size_ext, World.size_alloc, Array.size_append]; omega)))) | (with_reducible refine Grew.ext ?_ _ _) | (with_reducible refine Grew.drewN ?_ _) | (with_reducible refine Grew.drew ?_))))).mono ?_); rintro e w1 ⟨rfl, rfl⟩)) | (go_at_call 25; ((with_reducible refine (fY _ (by (show Grew _ _; (try simp only [← Array.append_assoc]); repeat (first | (with_reducible exact Grew.same_o) | (with_reducible exact Grew.refl _) | (with_reducible assumption) | (with_reducible refine Grew.alloc ?_ _) | (with_reducible refine Grew.app_r ?_) | ((with_reducible refine Grew.setCell ?_ ?_ _); rotate_left; (focus (dsimp only; first | omega | (simp only [size_ext, World.size_alloc, Array.size_append]; omega)))) | (with_reducible refine Grew.ext ?_ _ _) | (with_reducible refine Grew.drewN ?_ _) | (with_reducible refine Grew.drew ?_))))).mono ?_); rintro e w1 ⟨rfl, rfl⟩)))
      go_ret
      exact ⟨rfl, by (show Grew _ _; repeat (first | (with_reducible exact Grew.refl _) | (with_reducible assumption) | (with_reducible exact Grew.same_o) | (with_reducible exact Grew.app_o) | (with_reducible refine Grew.ext ?_ _ _) | (with_reducible refine Grew.alloc ?_ _) | ((with_reducible refine Grew.setCell ?_ ?_ _); rotate_left; (focus (dsimp only; first | omega | (simp only [size_ext, World.size_alloc, Array.size_append]; omega)))) | (with_reducible refine Grew.drewN ?_ _) | (with_reducible refine Grew.drew ?_)))⟩
    · have d2 : ((Y.length : Int) == 0) = false := by simpa using c2
      by_cases c3 : 12 < Y.length
      · have d3 : decide ((12 : Int) < Y.length) = true := by simp; omega
        go_enter Try.func8, Try.ntmps8
        go_wp2_with (first | (go_at_call 67; ((with_reducible refine (awake07 _).mono ?_); rintro e w1 ⟨rfl, o1, n1, rfl⟩)) | (go_at_call 25; ((with_reducible refine (fL _ (by (show Grew _ _; (try simp only [← Array.append_assoc]); repeat (first | (with_reducible exact Grew.same_o) | (with_reducible exact Grew.refl _) | (with_reducible assumption) | (with_reducible refine Grew.alloc ?_ _) | (with_reducible refine Grew.app_r ?_) | ((with_reducible refine Grew.setCell ?_ ?_ _); rotate_left; (focus (dsimp only; first | omega | (simp only [size_ext, World.size_alloc, Array.size_append]; omega)))) | (with_reducible refine Grew.ext ?_ _ _) | (with_reducible refine Grew.drewN ?_ _) | (with_reducible refine Grew.drew ?_))))).mono ?_); rintro e w1 ⟨rfl, rfl⟩)) | (go_at_call 25; ((with_reducible refine (fX _ (by (show Grew _ _; (try simp only [← Array.append_assoc]); repeat (first | (with_reducible exact Grew.same_o) | (with_reducible exact Grew.refl _) | (with_reducible assumption) | (with_reducible refine Grew.alloc ?_ _) | (with_reducible refine Grew.app_r ?_) | ((with_reducible refine Grew.setCell ?_ ?_ _); rotate_left; (focus (dsimp only; first | omega | (simp only [size_ext, World.size_alloc, Array.size_append]; omega)))) | (with_reducible refine Grew.ext ?_ _ _) | (with_reducible refine Grew.drewN ?_ _) | (with_reducible refine Grew.drew ?_))))).mono ?_); rintro e w1 ⟨rfl, rfl⟩)) | (go_at_call 25; ((with_reducible refine (fY _ (by (show Grew _ _; (try simp only [← Array.append_assoc]); repeat (first | (with_reducible exact Grew.same_o) | (with_reducible exact Grew.refl _) | (with_reducible assumption) | (with_reducible refine Grew.alloc ?_ _) | (with_reducible refine Grew.app_r ?_) | ((with_reducible refine Grew.setCell ?_ ?_ _); rotate_left; (focus (dsimp only; first | omega | (simp only [size_ext, World.size_alloc, Array.size_append]; omega)))) | (with_reducible refine Grew.ext ?_ _ _) | (with_reducible refine Grew.drewN ?_ _) | (with_reducible refine Grew.drew ?_))))).mono ?_); rintro e w1 ⟨rfl, rfl⟩)))
        go_ret
        exact ⟨rfl, by (show Grew _ _; repeat (first | (with_reducible exact Grew.refl _) | (with_reducible assumption) | (with_reducible exact Grew.same_o) | (with_reducible exact Grew.app_o) | (with_reducible refine Grew.ext ?_ _ _) | (with_reducible refine Grew.alloc ?_ _) | ((with_reducible refine Grew.setCell ?_ ?_ _); rotate_left; (focus (dsimp only; first | omega | (simp only [size_ext, World.size_alloc, Array.size_append]; omega)))) | (with_reducible refine Grew.drewN ?_ _) | (with_reducible refine Grew.drew ?_)))⟩
      · have d3 : decide ((12 : Int) < Y.length) = false := by simp; omega
        by_cases c4 : 60 < X.length
        · have d4 : decide ((60 : Int) < X.length) = true := by simp; omega
          go_enter Try.func8, Try.ntmps8
          go_wp2_with (first | (go_at_call 67; ((with_reducible refine (awake07 _).mono ?_); rintro e w1 ⟨rfl, o1, n1, rfl⟩)) | (go_at_call 25; ((with_reducible refine (fL _ (by (show Grew _ _; (try simp only [← Array.append_assoc]); repeat (first | (with_reducible exact Grew.same_o) | (with_reducible exact Grew.refl _) | (with_reducible assumption) | (with_reducible refine Grew.alloc ?_ _) | (with_reducible refine Grew.app_r ?_) | ((with_reducible refine Grew.setCell ?_ ?_ _); rotate_left; (focus (dsimp only; first | omega | (simp only [size_ext, World.size_alloc, Array.size_append]; omega)))) | (with_reducible refine Grew.ext ?_ _ _) | (with_reducible refine Grew.drewN ?_ _) | (with_reducible refine Grew.drew ?_))))).mono ?_); rintro e w1 ⟨rfl, rfl⟩)) | (go_at_call 25; ((with_reducible refine (fX _ (by (show Grew _ _; (try simp only [← Array.append_assoc]); repeat (first | (with_reducible exact Grew.same_o) | (with_reducible exact Grew.refl _) | (with_reducible assumption) | (with_reducible refine Grew.alloc ?_ _) | (with_reducible refine Grew.app_r ?_) | ((with_reducible refine Grew.setCell ?_ ?_ _); rotate_left; (focus (dsimp only; first | omega | (simp only [size_ext, World.size_alloc, Array.size_append]; omega)))) | (with_reducible refine Grew.ext ?_ _ _) | (with_reducible refine Grew.drewN ?_ _) | (with_reducible refine Grew.drew ?_))))).mono ?_); rintro e w1 ⟨rfl, rfl⟩)) | (go_at_call 25; ((with_reducible refine (fY _ (by (show Grew _ _; (try simp only [← Array.append_assoc]); repeat (first | (with_reducible exact Grew.same_o) | (with_reducible exact Grew.refl _) | (with_reducible assumption) | (with_reducible refine Grew.alloc ?_ _) | (with_reducible refine Grew.app_r ?_) | ((with_reducible refine Grew.setCell ?_ ?_ _); rotate_left; (focus (dsimp only; first | omega | (simp only [size_ext, World.size_alloc, Array.size_append]; omega)))) | (with_reducible refine Grew.ext ?_ _ _) | (with_reducible refine Grew.drewN ?_ _) | (with_reducible refine Grew.drew ?_))))).mono ?_); rintro e w1 ⟨rfl, rfl⟩)))
          go_ret
          exact ⟨rfl, by (show Grew _ _; repeat (first | (with_reducible exact Grew.refl _) | (with_reducible assumption) | (with_reducible exact Grew.same_o) | (with_reducible exact Grew.app_o) | (with_reducible refine Grew.ext ?_ _ _) | (with_reducible refine Grew.alloc ?_ _) | ((with_reducible refine Grew.setCell ?_ ?_ _); rotate_left; (focus (dsimp only; first | omega | (simp only [size_ext, World.size_alloc, Array.size_append]; omega)))) | (with_reducible refine Grew.drewN ?_ _) | (with_reducible refine Grew.drew ?_)))⟩
        · have d4 : decide ((60 : Int) < X.length) = false := by simp; omega
          by_cases c5 : 200 < L.length
          · have d5 : decide ((200 : Int) < L.length) = true := by simp; omega
            go_enter Try.func8, Try.ntmps8
            go_wp2_with (first | (go_at_call 67; ((with_reducible refine (awake07 _).mono ?_); rintro e w1 ⟨rfl, o1, n1, rfl⟩)) | (go_at_call 25; ((with_reducible refine (fL _ (by (show Grew _ _; (try simp only [← Array.append_assoc]); repeat (first | (with_reducible exact Grew.same_o) | (with_reducible exact Grew.refl _) | (with_reducible assumption) | (with_reducible refine Grew.alloc ?_ _) | (with_reducible refine Grew.app_r ?_) | ((with_reducible refine Grew.setCell ?_ ?_ _); rotate_left; (focus (dsimp only; first | omega | (simp only [size_ext, World.size_alloc, Array.size_append]; omega)))) | (with_reducible refine Grew.ext ?_ _ _) | (with_reducible refine Grew.drewN ?_ _) | (with_reducible refine Grew.drew ?_))))).mono ?_); rintro e w1 ⟨rfl, rfl⟩)) | (go_at_call 25; ((with_reducible refine (fX _ (by (show Grew _ _; (try simp only [← Array.append_assoc]); repeat (first | (with_reducible exact Grew.same_o) | (with_reducible exact Grew.refl _) | (with_reducible assumption) | (with_reducible refine Grew.alloc ?_ _) | (with_reducible refine Grew.app_r ?_) | ((with_reducible refine Grew.setCell ?_ ?_ _); rotate_left; (focus (dsimp only; first | omega | (simp only [size_ext, World.size_alloc, Array.size_append]; omega)))) | (with_reducible refine Grew.ext ?_ _ _) | (with_reducible refine Grew.drewN ?_ _) | (with_reducible refine Grew.drew ?_))))).mono ?_); rintro e w1 ⟨rfl, rfl⟩)) | (go_at_call 25; ((with_reducible refine (fY _ (by (show Grew _ _; (try simp only [← Array.append_assoc]); repeat (first | (with_reducible exact Grew.same_o) | (with_reducible exact Grew.refl _) | (with_reducible assumption) | (with_reducible refine Grew.alloc ?_ _) | (with_reducible refine Grew.app_r ?_) | ((with_reducible refine Grew.setCell ?_ ?_ _); rotate_left; (focus (dsimp only; first | omega | (simp only [size_ext, World.size_alloc, Array.size_append]; omega)))) | (with_reducible refine Grew.ext ?_ _ _) | (with_reducible refine Grew.drewN ?_ _) | (with_reducible refine Grew.drew ?_))))).mono ?_); rintro e w1 ⟨rfl, rfl⟩)))
            go_ret
            exact ⟨rfl, by (show Grew _ _; repeat (first | (with_reducible exact Grew.refl _) | (with_reducible assumption) | (with_reducible exact Grew.same_o) | (with_reducible exact Grew.app_o) | (with_reducible refine Grew.ext ?_ _ _) | (with_reducible refine Grew.alloc ?_ _) | ((with_reducible refine Grew.setCell ?_ ?_ _); rotate_left; (focus (dsimp only; first | omega | (simp only [size_ext, World.size_alloc, Array.size_append]; omega)))) | (with_reducible refine Grew.drewN ?_ _) | (with_reducible refine Grew.drew ?_)))⟩
          · have d5 : decide ((200 : Int) < L.length) = false := by simp; omega
            cases h1 : finL L
            · rw [h1] at fL
              go_enter Try.func8, Try.ntmps8
              go_wp2_with (first | (go_at_call 67; ((with_reducible refine (awake07 _).mono ?_); rintro e w1 ⟨rfl, o1, n1, rfl⟩)) | (go_at_call 25; ((with_reducible refine (fL _ (by (show Grew _ _; (try simp only [← Array.append_assoc]); repeat (first | (with_reducible exact Grew.same_o) | (with_reducible exact Grew.refl _) | (with_reducible assumption) | (with_reducible refine Grew.alloc ?_ _) | (with_reducible refine Grew.app_r ?_) | ((with_reducible refine Grew.setCell ?_ ?_ _); rotate_left; (focus (dsimp only; first | omega | (simp only [size_ext, World.size_alloc, Array.size_append]; omega)))) | (with_reducible refine Grew.ext ?_ _ _) | (with_reducible refine Grew.drewN ?_ _) | (with_reducible refine Grew.drew ?_))))).mono ?_); rintro e w1 ⟨rfl, rfl⟩)) | (go_at_call 25; ((with_reducible refine (fX _ (by (show Grew _ _; (try simp only [← Array.append_assoc]); repeat (first | (with_reducible exact Grew.same_o) | (with_reducible exact Grew.refl _) | (with_reducible assumption) | (with_reducible refine Grew.alloc ?_ _) | (with_reducible refine Grew.app_r ?_) | ((with_reducible refine Grew.setCell ?_ ?_ _); rotate_left; (focus (dsimp only; first | omega | (simp only [size_ext, World.size_alloc, Array.size_append]; omega)))) | (with_reducible refine Grew.ext ?_ _ _) | (with_reducible refine Grew.drewN ?_ _) | (with_reducible refine Grew.drew ?_))))).mono ?_); rintro e w1 ⟨rfl, rfl⟩)) | (go_at_call 25; ((with_reducible refine (fY _ (by (show Grew _ _; (try simp only [← Array.append_assoc]); repeat (first | (with_reducible exact Grew.same_o) | (with_reducible exact Grew.refl _) | (with_reducible assumption) | (with_reducible refine Grew.alloc ?_ _) | (with_reducible refine Grew.app_r ?_) | ((with_reducible refine Grew.setCell ?_ ?_ _); rotate_left; (focus (dsimp only; first | omega | (simp only [size_ext, World.size_alloc, Array.size_append]; omega)))) | (with_reducible refine Grew.ext ?_ _ _) | (with_reducible refine Grew.drewN ?_ _) | (with_reducible refine Grew.drew ?_))))).mono ?_); rintro e w1 ⟨rfl, rfl⟩)))
              go_ret
              exact ⟨rfl, by (show Grew _ _; repeat (first | (with_reducible exact Grew.refl _) | (with_reducible assumption) | (with_reducible exact Grew.same_o) | (with_reducible exact Grew.app_o) | (with_reducible refine Grew.ext ?_ _ _) | (with_reducible refine Grew.alloc ?_ _) | ((with_reducible refine Grew.setCell ?_ ?_ _); rotate_left; (focus (dsimp only; first | omega | (simp only [size_ext, World.size_alloc, Array.size_append]; omega)))) | (with_reducible refine Grew.drewN ?_ _) | (with_reducible refine Grew.drew ?_)))⟩
            · rw [h1] at fL
              cases h2 : finL X
              · rw [h2] at fX
                go_enter Try.func8, Try.ntmps8
                go_wp2_with (first | (go_at_call 67; ((with_reducible refine (awake07 _).mono ?_); rintro e w1 ⟨rfl, o1, n1, rfl⟩)) | (go_at_call 25; ((with_reducible refine (fL _ (by (show Grew _ _; (try simp only [← Array.append_assoc]); repeat (first | (with_reducible exact Grew.same_o) | (with_reducible exact Grew.refl _) | (with_reducible assumption) | (with_reducible refine Grew.alloc ?_ _) | (with_reducible refine Grew.app_r ?_) | ((with_reducible refine Grew.setCell ?_ ?_ _); rotate_left; (focus (dsimp only; first | omega | (simp only [size_ext, World.size_alloc, Array.size_append]; omega)))) | (with_reducible refine Grew.ext ?_ _ _) | (with_reducible refine Grew.drewN ?_ _) | (with_reducible refine Grew.drew ?_))))).mono ?_); rintro e w1 ⟨rfl, rfl⟩)) | (go_at_call 25; ((with_reducible refine (fX _ (by (show Grew _ _; (try simp only [← Array.append_assoc]); repeat (first | (with_reducible exact Grew.same_o) | (with_reducible exact Grew.refl _) | (with_reducible assumption) | (with_reducible refine Grew.alloc ?_ _) | (with_reducible refine Grew.app_r ?_) | ((with_reducible refine Grew.setCell ?_ ?_ _); rotate_left; (focus (dsimp only; first | omega | (simp only [size_ext, World.size_alloc, Array.size_append]; omega)))) | (with_reducible refine Grew.ext ?_ _ _) | (with_reducible refine Grew.drewN ?_ _) | (with_reducible refine Grew.drew ?_))))).mono ?_); rintro e w1 ⟨rfl, rfl⟩)) | (go_at_call 25; ((with_reducible refine (fY _ (by (show Grew _ _; (try simp only [← Array.append_assoc]); repeat (first | (with_reducible exact Grew.same_o) | (with_reducible exact Grew.refl _) | (with_reducible assumption) | (with_reducible refine Grew.alloc ?_ _) | (with_reducible refine Grew.app_r ?_) | ((with_reducible refine Grew.setCell ?_ ?_ _); rotate_left; (focus (dsimp only; first | omega | (simp only [size_ext, World.size_alloc, Array.size_append]; omega)))) | (with_reducible refine Grew.ext ?_ _ _) | (with_reducible refine Grew.drewN ?_ _) | (with_reducible refine Grew.drew ?_))))).mono ?_); rintro e w1 ⟨rfl, rfl⟩)))
                go_ret
                exact ⟨rfl, by (show Grew _ _; repeat (first | (with_reducible exact Grew.refl _) | (with_reducible assumption) | (with_reducible exact Grew.same_o) | (with_reducible exact Grew.app_o) | (with_reducible refine Grew.ext ?_ _ _) | (with_reducible refine Grew.alloc ?_ _) | ((with_reducible refine Grew.setCell ?_ ?_ _); rotate_left; (focus (dsimp only; first | omega | (simp only [size_ext, World.size_alloc, Array.size_append]; omega)))) | (with_reducible refine Grew.drewN ?_ _) | (with_reducible refine Grew.drew ?_)))⟩
              · rw [h2] at fX
                cases h3 : finL Y
                · rw [h3] at fY
                  go_enter Try.func8, Try.ntmps8
                  go_wp2_with (first | (go_at_call 67; ((with_reducible refine (awake07 _).mono ?_); rintro e w1 ⟨rfl, o1, n1, rfl⟩)) | (go_at_call 25; ((with_reducible refine (fL _ (by (show Grew _ _; (try simp only [← Array.append_assoc]); repeat (first | (with_reducible exact Grew.same_o) | (with_reducible exact Grew.refl _) | (with_reducible assumption) | (with_reducible refine Grew.alloc ?_ _) | (with_reducible refine Grew.app_r ?_) | ((with_reducible refine Grew.setCell ?_ ?_ _); rotate_left; (focus (dsimp only; first | omega | (simp only [size_ext, World.size_alloc, Array.size_append]; omega)))) | (with_reducible refine Grew.ext ?_ _ _) | (with_reducible refine Grew.drewN ?_ _) | (with_reducible refine Grew.drew ?_))))).mono ?_); rintro e w1 ⟨rfl, rfl⟩)) | (go_at_call 25; ((with_reducible refine (fX _ (by (show Grew _ _; (try simp only [← Array.append_assoc]); repeat (first | (with_reducible exact Grew.same_o) | (with_reducible exact Grew.refl _) | (with_reducible assumption) | (with_reducible refine Grew.alloc ?_ _) | (with_reducible refine Grew.app_r ?_) | ((with_reducible refine Grew.setCell ?_ ?_ _); rotate_left; (focus (dsimp only; first | omega | (simp only [size_ext, World.size_alloc, Array.size_append]; omega)))) | (with_reducible refine Grew.ext ?_ _ _) | (with_reducible refine Grew.drewN ?_ _) | (with_reducible refine Grew.drew ?_))))).mono ?_); rintro e w1 ⟨rfl, rfl⟩)) | (go_at_call 25; ((with_reducible refine (fY _ (by (show Grew _ _; (try simp only [← Array.append_assoc]); repeat (first | (with_reducible exact Grew.same_o) | (with_reducible exact Grew.refl _) | (with_reducible assumption) | (with_reducible refine Grew.alloc ?_ _) | (with_reducible refine Grew.app_r ?_) | ((with_reducible refine Grew.setCell ?_ ?_ _); rotate_left; (focus (dsimp only; first | omega | (simp only [size_ext, World.size_alloc, Array.size_append]; omega)))) | (with_reducible refine Grew.ext ?_ _ _) | (with_reducible refine Grew.drewN ?_ _) | (with_reducible refine Grew.drew ?_))))).mono ?_); rintro e w1 ⟨rfl, rfl⟩)))
                  go_ret
                  exact ⟨rfl, by (show Grew _ _; repeat (first | (with_reducible exact Grew.refl _) | (with_reducible assumption) | (with_reducible exact Grew.same_o) | (with_reducible exact Grew.app_o) | (with_reducible refine Grew.ext ?_ _ _) | (with_reducible refine Grew.alloc ?_ _) | ((with_reducible refine Grew.setCell ?_ ?_ _); rotate_left; (focus (dsimp only; first | omega | (simp only [size_ext, World.size_alloc, Array.size_append]; omega)))) | (with_reducible refine Grew.drewN ?_ _) | (with_reducible refine Grew.drew ?_)))⟩
                · exact gcl_main aL aX aY cL cX cY L.length X.length Y.length n L X Y u hu en w HL.out HX.out HY.out c1 c2 c3 c4 c5 h1 h2 h3
theorem gemvClose_any (VL : Value) (L : List Nat) (VX : Value) (X : List Nat) (VY : Value) (Y : List Nat) (z : Int) (w : World) (hL : FS w VL L) (hX : FS w VX X) (hY : FS w VY Y) (hz : 0 ≤ z ∧ z ≤ 255) :
    Calls Try.prog 8 #[VL, VX, VY, .int .u8 z] w (fun e w' => e = .returned (.bool true) ∧ ∃ o n, w' = ext w o n) := by
  obtain ⟨u, rfl⟩ : ∃ u : Nat, z = u := ⟨z.toNat, by omega⟩
  exact gemvClose_nat VL VX VY L X Y u (by omega) w hL hX hY
end Go.Proofs.Ytcmggfpcbijcjaa
end
section
/-
  The dump's head as a list of signs, laid by their numbers: the kernel reckons on such a list, not on the text.
-/
set_option linter.unusedSimpArgs false
set_option linter.unusedVariables false
namespace Go.Proofs.Ytcmggfpcbijcjaa
theorem may_cut {P : Program} {c : List Char} {rest : List (List Char)} (h : behindMainWord (wordsSigns P.initOrder.toList) = c :: rest) (hs : stripLifts liftWords (c :: rest) = ([], c :: rest))
    (hc : (c == "cut".toList) = true) (hl : P.laysLater = false) (hr : P.bearsReflect = false) (hd : P.doorFits [] = true) : P.mayEnter = true := by
  have hc' : c = "cut".toList := by simpa using hc
  unfold Program.mayEnter
  rw [h]
  simp only [hs, hl, hr, hd, List.head?_cons, List.contains_nil, Bool.false_or, Bool.not_false, Bool.and_true, Bool.or_true]
  rw [hc']
  simp
theorem final_cut {P : Program} {c : List Char} {rest : List (List Char)} (h : behindMainWord (wordsSigns P.initOrder.toList) = c :: rest) (hs : stripLifts liftWords (c :: rest) = ([], c :: rest))
    (hc : (c == "carried".toList) = false) : P.liftsFinal = false := by
  unfold Program.liftsFinal Program.headLifts
  simp only [h, hs, List.head?_cons, List.contains_nil, ite_self, Bool.or_false]
  have : (some c == some "carried".toList) = false := by simpa using hc
  rw [this]
  rfl
theorem make_cut {P : Program} {c : List Char} {rest : List (List Char)} (h : behindMainWord (wordsSigns P.initOrder.toList) = c :: rest)
    (h1 : (c == "gc".toList || c == "spec".toList) = false) (h2 : (c == "cut".toList) = true) : P.make = some .cut := by
  unfold Program.make
  rw [h]
  simp only [h1, h2, Bool.true_or, Bool.false_eq_true, if_false, if_true]
def headCodes : List Nat := [
  104, 97, 114, 110, 101, 115, 115, 32, 51, 102, 52, 100, 97, 51, 56, 49, 53, 101, 98, 97, 49, 97, 55, 99, 97, 51, 97, 53, 57, 98, 51, 57, 53, 55, 97, 97, 53, 56, 102, 57,
  54, 102, 100, 51, 48, 56, 99, 48, 99, 51, 57, 99, 54, 57, 56, 51, 57, 48, 54, 97, 99, 49, 97, 102, 48, 98, 102, 98, 49, 100, 49, 54, 32, 99, 117, 116, 32, 97, 116, 32,
  115, 116, 114, 97, 105, 103, 104, 116, 101, 100, 103, 101, 47, 115, 116, 114, 97, 105, 103, 104, 116, 101, 100, 103, 101, 108, 97, 119, 48, 54, 46, 65, 120, 101, 115, 67, 108, 111, 115, 101,
  32, 115, 116, 114, 97, 105, 103, 104, 116, 101, 100, 103, 101, 47, 115, 116, 114, 97, 105, 103, 104, 116, 101, 100, 103, 101, 108, 97, 119, 48, 53, 46, 83, 117, 109, 115, 76, 105, 115, 116,
  115, 32, 115, 116, 114, 97, 105, 103, 104, 116, 101, 100, 103, 101, 47, 115, 116, 114, 97, 105, 103, 104, 116, 101, 100, 103, 101, 108, 97, 119, 48, 52, 46, 77, 111, 118, 101, 82, 111, 119,
  115, 32, 115, 116, 114, 97, 105, 103, 104, 116, 101, 100, 103, 101, 47, 115, 116, 114, 97, 105, 103, 104, 116, 101, 100, 103, 101, 108, 97, 119, 48, 56, 46, 71, 101, 114, 84, 101, 108, 108,
  115, 32, 115, 116, 114, 97, 105, 103, 104, 116, 101, 100, 103, 101, 47, 115, 116, 114, 97, 105, 103, 104, 116, 101, 100, 103, 101, 108, 97, 119, 48, 52, 46, 77, 111, 118, 101, 86, 101, 99,
  116, 111, 114, 115, 32, 115, 116, 114, 97, 105, 103, 104, 116, 101, 100, 103, 101, 47, 115, 116, 114, 97, 105, 103, 104, 116, 101, 100, 103, 101, 108, 97, 119, 48, 55, 46, 71, 101, 109, 118,
  67, 108, 111, 115, 101, 32, 115, 116, 114, 97, 105, 103, 104, 116, 101, 100, 103, 101, 47, 115, 116, 114, 97, 105, 103, 104, 116, 101, 100, 103, 101, 108, 97, 119, 49, 49, 46, 71, 101, 109,
  109, 84, 101, 108, 108, 115, 32, 115, 116, 114, 97, 105, 103, 104, 116, 101, 100, 103, 101, 47, 115, 116, 114, 97, 105, 103, 104, 116, 101, 100, 103, 101, 108, 97, 119, 48, 57, 46, 84, 114,
  115, 118, 83, 111, 108, 118, 101, 115, 32, 115, 116, 114, 97, 105, 103, 104, 116, 101, 100, 103, 101, 47, 115, 116, 114, 97, 105, 103, 104, 116, 101, 100, 103, 101, 108, 97, 119, 48, 57, 46,
  84, 114, 115, 118, 66, 97, 99, 107, 119, 97, 114, 100, 32, 115, 116, 114, 97, 105, 103, 104, 116, 101, 100, 103, 101, 47, 115, 116, 114, 97, 105, 103, 104, 116, 101, 100, 103, 101, 108, 97,
  119, 48, 55, 46, 71, 101, 109, 118, 84, 117, 114, 110, 115, 32, 115, 116, 114, 97, 105, 103, 104, 116, 101, 100, 103, 101, 47, 115, 116, 114, 97, 105, 103, 104, 116, 101, 100, 103, 101, 108,
  97, 119, 48, 54, 46, 65, 120, 101, 115, 66, 97, 99, 107, 32, 115, 116, 114, 97, 105, 103, 104, 116, 101, 100, 103, 101, 47, 115, 116, 114, 97, 105, 103, 104, 116, 101, 100, 103, 101, 108,
  97, 119, 49, 49, 46, 71, 101, 109, 109, 87, 104, 111, 108, 101, 32, 115, 116, 114, 97, 105, 103, 104, 116, 101, 100, 103, 101, 47, 115, 116, 114, 97, 105, 103, 104, 116, 101, 100, 103, 101,
  108, 97, 119, 50, 50, 46, 82, 101, 115, 105, 100, 66, 111, 117, 110, 100, 115, 32, 115, 116, 114, 97, 105, 103, 104, 116, 101, 100, 103, 101, 47, 115, 116, 114, 97, 105, 103, 104, 116, 101,
  100, 103, 101, 108, 97, 119, 50, 50, 46, 82, 101, 115, 105, 100, 82, 101, 115, 116, 32, 115, 116, 114, 97, 105, 103, 104, 116, 101, 100, 103, 101, 47, 115, 116, 114, 97, 105, 103, 104, 116,
  101, 100, 103, 101, 108, 97, 119, 48, 54, 46, 65, 120, 101, 115, 83, 99, 97, 108, 101, 32, 115, 116, 114, 97, 105, 103, 104, 116, 101, 100, 103, 101, 47, 115, 116, 114, 97, 105, 103, 104,
  116, 101, 100, 103, 101, 108, 97, 119, 49, 53, 46, 69, 113, 117, 105, 108, 70, 97, 99, 116, 111, 114, 115, 32, 115, 116, 114, 97, 105, 103, 104, 116, 101, 100, 103, 101, 47, 115, 116, 114,
  97, 105, 103, 104, 116, 101, 100, 103, 101, 108, 97, 119, 50, 50, 46, 82, 101, 115, 105, 100, 84, 101, 108, 108, 115, 32, 115, 116, 114, 97, 105, 103, 104, 116, 101, 100, 103, 101, 47, 115,
  116, 114, 97, 105, 103, 104, 116, 101, 100, 103, 101, 108, 97, 119, 50, 50, 46, 82, 101, 115, 105, 100, 66, 97, 99, 107, 119, 97, 114, 100, 32, 115, 116, 114, 97, 105, 103, 104, 116, 101,
  100, 103, 101, 47, 115, 116, 114, 97, 105, 103, 104, 116, 101, 100, 103, 101, 108, 97, 119, 49, 53, 46, 69, 113, 117, 105, 108, 76, 105, 107, 101, 32, 115, 116, 114, 97, 105, 103, 104, 116,
  101, 100, 103, 101, 47, 115, 116, 114, 97, 105, 103, 104, 116, 101, 100, 103, 101, 108, 97, 119, 49, 53, 46, 69, 113, 117, 105, 108, 83, 99, 97, 108, 101, 115, 32, 115, 116, 114, 97, 105,
  103, 104, 116, 101, 100, 103, 101, 47, 115, 116, 114, 97, 105, 103, 104, 116, 101, 100, 103, 101, 108, 97, 119, 50, 48, 46, 76, 97, 99, 110, 66, 101, 108, 111, 119]
def headWords : List (List Nat) := [
  [104, 97, 114, 110, 101, 115, 115],
  [51, 102, 52, 100, 97, 51, 56, 49, 53, 101, 98, 97, 49, 97, 55, 99, 97, 51, 97, 53, 57, 98, 51, 57, 53, 55, 97, 97, 53, 56, 102, 57, 54, 102, 100, 51, 48, 56, 99, 48, 99, 51, 57, 99, 54, 57, 56, 51, 57, 48, 54, 97, 99, 49, 97, 102, 48, 98, 102, 98, 49, 100, 49, 54],
  [99, 117, 116],
  [97, 116],
  [115, 116, 114, 97, 105, 103, 104, 116, 101, 100, 103, 101, 47, 115, 116, 114, 97, 105, 103, 104, 116, 101, 100, 103, 101, 108, 97, 119, 48, 54, 46, 65, 120, 101, 115, 67, 108, 111, 115, 101],
  [115, 116, 114, 97, 105, 103, 104, 116, 101, 100, 103, 101, 47, 115, 116, 114, 97, 105, 103, 104, 116, 101, 100, 103, 101, 108, 97, 119, 48, 53, 46, 83, 117, 109, 115, 76, 105, 115, 116, 115],
  [115, 116, 114, 97, 105, 103, 104, 116, 101, 100, 103, 101, 47, 115, 116, 114, 97, 105, 103, 104, 116, 101, 100, 103, 101, 108, 97, 119, 48, 52, 46, 77, 111, 118, 101, 82, 111, 119, 115],
  [115, 116, 114, 97, 105, 103, 104, 116, 101, 100, 103, 101, 47, 115, 116, 114, 97, 105, 103, 104, 116, 101, 100, 103, 101, 108, 97, 119, 48, 56, 46, 71, 101, 114, 84, 101, 108, 108, 115],
  [115, 116, 114, 97, 105, 103, 104, 116, 101, 100, 103, 101, 47, 115, 116, 114, 97, 105, 103, 104, 116, 101, 100, 103, 101, 108, 97, 119, 48, 52, 46, 77, 111, 118, 101, 86, 101, 99, 116, 111, 114, 115],
  [115, 116, 114, 97, 105, 103, 104, 116, 101, 100, 103, 101, 47, 115, 116, 114, 97, 105, 103, 104, 116, 101, 100, 103, 101, 108, 97, 119, 48, 55, 46, 71, 101, 109, 118, 67, 108, 111, 115, 101],
  [115, 116, 114, 97, 105, 103, 104, 116, 101, 100, 103, 101, 47, 115, 116, 114, 97, 105, 103, 104, 116, 101, 100, 103, 101, 108, 97, 119, 49, 49, 46, 71, 101, 109, 109, 84, 101, 108, 108, 115],
  [115, 116, 114, 97, 105, 103, 104, 116, 101, 100, 103, 101, 47, 115, 116, 114, 97, 105, 103, 104, 116, 101, 100, 103, 101, 108, 97, 119, 48, 57, 46, 84, 114, 115, 118, 83, 111, 108, 118, 101, 115],
  [115, 116, 114, 97, 105, 103, 104, 116, 101, 100, 103, 101, 47, 115, 116, 114, 97, 105, 103, 104, 116, 101, 100, 103, 101, 108, 97, 119, 48, 57, 46, 84, 114, 115, 118, 66, 97, 99, 107, 119, 97, 114, 100],
  [115, 116, 114, 97, 105, 103, 104, 116, 101, 100, 103, 101, 47, 115, 116, 114, 97, 105, 103, 104, 116, 101, 100, 103, 101, 108, 97, 119, 48, 55, 46, 71, 101, 109, 118, 84, 117, 114, 110, 115],
  [115, 116, 114, 97, 105, 103, 104, 116, 101, 100, 103, 101, 47, 115, 116, 114, 97, 105, 103, 104, 116, 101, 100, 103, 101, 108, 97, 119, 48, 54, 46, 65, 120, 101, 115, 66, 97, 99, 107],
  [115, 116, 114, 97, 105, 103, 104, 116, 101, 100, 103, 101, 47, 115, 116, 114, 97, 105, 103, 104, 116, 101, 100, 103, 101, 108, 97, 119, 49, 49, 46, 71, 101, 109, 109, 87, 104, 111, 108, 101],
  [115, 116, 114, 97, 105, 103, 104, 116, 101, 100, 103, 101, 47, 115, 116, 114, 97, 105, 103, 104, 116, 101, 100, 103, 101, 108, 97, 119, 50, 50, 46, 82, 101, 115, 105, 100, 66, 111, 117, 110, 100, 115],
  [115, 116, 114, 97, 105, 103, 104, 116, 101, 100, 103, 101, 47, 115, 116, 114, 97, 105, 103, 104, 116, 101, 100, 103, 101, 108, 97, 119, 50, 50, 46, 82, 101, 115, 105, 100, 82, 101, 115, 116],
  [115, 116, 114, 97, 105, 103, 104, 116, 101, 100, 103, 101, 47, 115, 116, 114, 97, 105, 103, 104, 116, 101, 100, 103, 101, 108, 97, 119, 48, 54, 46, 65, 120, 101, 115, 83, 99, 97, 108, 101],
  [115, 116, 114, 97, 105, 103, 104, 116, 101, 100, 103, 101, 47, 115, 116, 114, 97, 105, 103, 104, 116, 101, 100, 103, 101, 108, 97, 119, 49, 53, 46, 69, 113, 117, 105, 108, 70, 97, 99, 116, 111, 114, 115],
  [115, 116, 114, 97, 105, 103, 104, 116, 101, 100, 103, 101, 47, 115, 116, 114, 97, 105, 103, 104, 116, 101, 100, 103, 101, 108, 97, 119, 50, 50, 46, 82, 101, 115, 105, 100, 84, 101, 108, 108, 115],
  [115, 116, 114, 97, 105, 103, 104, 116, 101, 100, 103, 101, 47, 115, 116, 114, 97, 105, 103, 104, 116, 101, 100, 103, 101, 108, 97, 119, 50, 50, 46, 82, 101, 115, 105, 100, 66, 97, 99, 107, 119, 97, 114, 100],
  [115, 116, 114, 97, 105, 103, 104, 116, 101, 100, 103, 101, 47, 115, 116, 114, 97, 105, 103, 104, 116, 101, 100, 103, 101, 108, 97, 119, 49, 53, 46, 69, 113, 117, 105, 108, 76, 105, 107, 101],
  [115, 116, 114, 97, 105, 103, 104, 116, 101, 100, 103, 101, 47, 115, 116, 114, 97, 105, 103, 104, 116, 101, 100, 103, 101, 108, 97, 119, 49, 53, 46, 69, 113, 117, 105, 108, 83, 99, 97, 108, 101, 115],
  [115, 116, 114, 97, 105, 103, 104, 116, 101, 100, 103, 101, 47, 115, 116, 114, 97, 105, 103, 104, 116, 101, 100, 103, 101, 108, 97, 119, 50, 48, 46, 76, 97, 99, 110, 66, 101, 108, 111, 119]]
def W : List (List Char) := headWords.map (·.map Char.ofNat)
theorem head_eq : Try.prog.initOrder = String.ofList (headCodes.map Char.ofNat) := by kernel_rfl
theorem head_list : Try.prog.initOrder.toList = headCodes.map Char.ofNat := by rw [head_eq, String.toList_ofList]
theorem head_words : wordsSigns (headCodes.map Char.ofNat) = W := by kernel_rfl
def cutWord : List Char := W.getD 2 []
def restWords : List (List Char) := W.drop 3
theorem head_split : behindMainWord W = cutWord :: restWords := by kernel_rfl
theorem head_behind : behindMainWord (wordsSigns Try.prog.initOrder.toList) = cutWord :: restWords := by rw [head_list, head_words]; exact head_split
theorem head_strip : stripLifts liftWords (cutWord :: restWords) = ([], cutWord :: restWords) := by kernel_rfl
theorem head_final : Try.prog.liftsFinal = false := final_cut head_behind head_strip (by kernel_rfl)
theorem head_make : Try.prog.make = some .cut := make_cut head_behind (by kernel_rfl) (by kernel_rfl)
theorem head_may : Try.prog.mayEnter = true := may_cut head_behind head_strip (by kernel_rfl) (by kernel_rfl) (by kernel_rfl) (by kernel_rfl)
end Go.Proofs.Ytcmggfpcbijcjaa
end
