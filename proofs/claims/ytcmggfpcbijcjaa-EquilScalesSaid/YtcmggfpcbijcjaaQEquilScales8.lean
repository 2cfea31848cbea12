/-
  Texts laid one behind the other (a claim has at most 60 files): Scale1, LikeP, Back, ExactP, ExAll, Exa2.
-/
import Derived.Deep.CutBlock
import Derived.Deep.DeepCutAuto
import Derived.Test.YtcmggfpcbijcjaaQEquilScales1
import Derived.Test.YtcmggfpcbijcjaaQEquilScales2
import Derived.Test.YtcmggfpcbijcjaaQEquilScales3
import Derived.Test.YtcmggfpcbijcjaaQEquilScales4
import Derived.Test.YtcmggfpcbijcjaaQEquilScales5
import Derived.Test.YtcmggfpcbijcjaaQEquilScales6
import Derived.Test.YtcmggfpcbijcjaaQEquilScales7
section
/-
  Contract: equil.Scale.
-/
set_option linter.unusedSimpArgs false
set_option linter.unusedVariables false
open Go Go.RowKit Sedge
namespace Go.Proofs.Ytcmggfpcbijcjaa
theorem matd_goodA {L : List Nat} {r c : Nat} (h : L.length = r * c) : MatM.good ⟨L, 0, r, c, (max r 1 : Nat)⟩ = true := by
  rcases Nat.eq_zero_or_pos r with h0 | h0
  · subst h0
    simp only [MatM.good, Bool.and_eq_true, Bool.or_eq_true, decide_eq_true_eq]
    refine ⟨by omega, .inl ?_⟩
    simp
  · rcases Nat.eq_zero_or_pos c with h1 | h1
    · subst h1
      simp only [MatM.good, Bool.and_eq_true, Bool.or_eq_true, decide_eq_true_eq]
      refine ⟨by omega, .inl ?_⟩
      simp
    · rw [show max r 1 = r by omega]; exact matd_good h h0 h1
theorem numL_at (x : MatM) {R C i j : Nat} (hR : x.rows = R) (hC : x.cols = C) (hi : i < R) (hj : j < C) : (numL x).getD (i + j * R) 0 = x.num i j := by
  unfold numL numTo
  rw [hR, hC, Int.toNat_natCast, Int.toNat_natCast]
  rw [List.getD_eq_getElem?_getD, List.getElem?_map, List.getElem?_range (place_lt2 hi hj)]
  show x.num ((i + j * R) % R) ((i + j * R) / R) = _
  rw [Nat.add_mul_mod_self_right, Nat.mod_eq_of_lt hi, Nat.add_mul_div_right _ _ (by omega), Nat.div_eq_of_lt hi, Nat.zero_add]
set_option maxRecDepth 100000 in
set_option maxHeartbeats 2000000 in
/-- equil.Scale, where all is well. -/
theorem scale_ok (x : MatM) (D VR VC : Value) (rs cs : List Int) (R C : Nat) (w : World) (hD : FS w D x.ws) (hx : x.good = true) (hwf : x.wf) (hl : x.ws.length ≤ 1000000) (hR : x.rows = R) (hC : x.cols = C) (hr : R ≤ 64) (hc : C ≤ 64)
    (hVR : IS .i64 w VR rs) (hVC : IS .i64 w VC cs) (lr : rs.length = R) (lc : cs.length = C) :
   Calls Try.prog 109 #[.agg #[D, .int .i64 x.off, .int .i64 R, .int .i64 C, .int .i64 x.ld], VR, VC] w (fun e w' => ∃ k L, e = .returned (.tuple #[.agg #[.slice (some ⟨k, 0, none⟩) (R * C) (R * C), .int .i64 0, .int .i64 R, .int .i64 C, .int .i64 (max R 1 : Nat)], .int .i64 0]) ∧ w.heap.size ≤ k ∧ FW w' k L ∧ L.length = R * C ∧ (∀ i j, i < R → j < C → L.getD (i + j * R) 0 = shF rs cs i j (x.num i j)) ∧ ∃ o n, w' = ext w o n) := by
  have hgd : ∀ w', FS w' D x.ws → Calls Try.prog 130 #[.agg #[D, .int .i64 x.off, .int .i64 R, .int .i64 C, .int .i64 x.ld]] w' (fun e w2 => e = .returned (.bool true) ∧ ∃ o n, w2 = ext w' o n) := fun w' h => by
    have := good_any x D w' h hwf; rw [hx, hR, hC] at this; exact this
  have hcl := fun w' h => clone_ok x D R C w' h hx hwf hl hR hC hr hc
  have lN : (numL x).length = R * C := by simp [numL, numTo, hR, hC]
  have hm : R * C ≤ 64 * 64 := Nat.mul_le_mul hr hc
  have hat : ∀ i j, i < R → j < C → (numL x).getD (i + j * R) 0 = x.num i j := fun i j hi hj => numL_at x hR hC hi hj
  obtain ⟨N, hN⟩ : ∃ N, N = numL x := ⟨_, rfl⟩
  rw [← hN] at lN hat
  rw [← hN] at hcl
  obtain ⟨LD, hLD⟩ : ∃ LD, LD = max R 1 := ⟨_, rfl⟩
  have hsh : ∀ w' k, FW w' k N → w.heap.size ≤ k → Grew w w' → Calls Try.prog 184 #[.agg #[.slice (some ⟨k, 0, none⟩) (R * C) (R * C), .int .i64 0, .int .i64 R, .int .i64 C, .int .i64 LD], VR, VC] w' (fun e w2 => e = .returned (.int .i64 0) ∧ But w' [k] w2 ∧ ∃ L, FW w2 k L ∧ L.length = R * C ∧ ∀ i j, i < R → j < C → L.getD (i + j * R) 0 = shF rs cs i j (x.num i j)) := fun w' k hF hk g => by
    have h := gshift_ok ⟨N, 0, R, C, (max R 1 : Nat)⟩ k (R * C) VR VC rs cs w' hF (matd_goodA lN) (by simp [MatM.wf, I64]; omega) (by show N.length ≤ _; omega) (by show (R : Int) ≤ 1000; omega) (by show (C : Int) ≤ 1000; omega)
      (fun w2 hb => hVR.grew (hb.grew0 g (by intro q hq; simp at hq; omega))) (fun w2 hb => hVC.grew (hb.grew0 g (by intro q hq; simp at hq; omega))) (by show (rs.length : Int) = R; omega) (by show (cs.length : Int) = C; omega)
    simp only at h
    rw [lN, ← hLD] at h
    refine h.mono fun e w2 hh => ?_
    obtain ⟨rfl, q1, L, q2, q3⟩ := hh
    refine ⟨rfl, q1, L, q2, by rw [q3.len]; exact lN, fun i j hi hj => ?_⟩
    have e1 : ∀ i j : Nat, i < R → MatM.place ⟨N, 0, R, C, (LD : Nat)⟩ i j = i + j * R := fun i j hi => by
      rw [hLD, show max R 1 = R by omega]; exact matd_place
    have h2 := q3.get i j hi hj
    rw [e1 i j hi] at h2
    rw [h2]
    congr 1
    unfold MatM.num
    rw [e1 i j hi]
    exact hat i j hi hj
  rw [← hLD] at hcl ⊢
  obtain ⟨aR, cR, rfl⟩ := hVR.shape
  obtain ⟨aC, cC, rfl⟩ := hVC.shape
  have d1 : ((rs.length : Int) != R) = false := by simp [lr]
  have d2 : ((cs.length : Int) != C) = false := by simp [lc]
  have HLR := hid lr
  have HLC := hid lc
  clear hx hwf hR hC hN hLD lr lc hat
  go_enter Try.func109, Try.ntmps109
  refine seq_stop ?_
  go_wp2
  refine stop_go (fun W hW => ?_)
  have s1 : w.heap.size < W.heap.size := by rw [hW]; simp only [World.size_alloc]; omega
  have b1 : ∀ i, W.cell? ⟨w.heap.size, i, none⟩ = (#[D, .int .i64 x.off, .int .i64 R, .int .i64 C, .int .i64 x.ld] : Array Value)[i]? := by intro i; rw [hW]; go_simp
  have X1 : Box W (w.heap.size) #[D, .int .i64 x.off, .int .i64 R, .int .i64 C, .int .i64 x.ld] := by rw [hW]; refine Box.grew ?_ ((Grew.refl _).alloc _); exact Box.new' (by first | rfl | (simp only [World.size_alloc]; done) | (simp only [World.size_alloc]; omega))
  have f1 : ∀ i, W.frozen? ⟨w.heap.size, i, none⟩ = false := by intro i; rw [hW]; go_simp
  have s2 : w.heap.size + 1 < W.heap.size := by rw [hW]; simp only [World.size_alloc]; omega
  have b2 : ∀ i, W.cell? ⟨w.heap.size + 1, i, none⟩ = (#[.slice none 0 0, .int .i64 0, .int .i64 0, .int .i64 0, .int .i64 0] : Array Value)[i]? := by intro i; rw [hW]; go_simp
  have X2 : Box W (w.heap.size + 1) #[.slice none 0 0, .int .i64 0, .int .i64 0, .int .i64 0, .int .i64 0] := by rw [hW]; exact Box.new' (by first | rfl | (simp only [World.size_alloc]; done) | (simp only [World.size_alloc]; omega))
  have f2 : ∀ i, W.frozen? ⟨w.heap.size + 1, i, none⟩ = false := by intro i; rw [hW]; go_simp
  have g0 : Grew w W := by rw [hW]; exact ((Grew.refl _).alloc _).alloc _
  clear hW
  have hDW := hD.grew g0
  go_upto_region 8 with (first | (go_at_call 130; ((with_reducible refine (hgd _ ?_).mono ?_); (focus (first | (with_reducible assumption) | (with_reducible refine FS.ext ?_ _ _; with_reducible assumption) | (with_reducible refine IS.ext ?_ _ _; with_reducible assumption) | (refine hDu _ ?_; with_reducible assumption) | (refine hOu _ ?_; with_reducible assumption) | (refine hDa _ ?_; with_reducible assumption) | (refine hDb _ ?_; with_reducible assumption) | (refine hDc _ ?_; with_reducible assumption) | (refine hDd _ ?_; with_reducible assumption) | (refine FW.fs ?_ (by omega) _; with_reducible assumption) | (refine WS.fs ?_; with_reducible assumption) | (refine FW.fs ?_ (by omega) _; assumption) | omega | assumption)); rintro e w1 ⟨rfl, o1, n1, rfl⟩)) | (go_at_call 163; ((with_reducible refine (hcl _ ?_).mono ?_); (focus (first | (with_reducible assumption) | (with_reducible refine FS.ext ?_ _ _; with_reducible assumption) | (with_reducible refine IS.ext ?_ _ _; with_reducible assumption) | (refine hDu _ ?_; with_reducible assumption) | (refine hOu _ ?_; with_reducible assumption) | (refine hDa _ ?_; with_reducible assumption) | (refine hDb _ ?_; with_reducible assumption) | (refine hDc _ ?_; with_reducible assumption) | (refine hDd _ ?_; with_reducible assumption) | (refine FW.fs ?_ (by omega) _; with_reducible assumption) | (refine WS.fs ?_; with_reducible assumption) | (refine FW.fs ?_ (by omega) _; assumption) | omega | assumption)); rintro e w1 ⟨k, rfl, hk, hF, o2, n2, rfl⟩)))
  refine name_any (fun V hV => ?_)
  obtain ⟨p6, hp6⟩ : ∃ p, p = w.heap.size + 1 := ⟨_, rfl⟩
  obtain ⟨p8, hp8⟩ : ∃ p, p = W.heap.size + (o1.size + o2.size) := ⟨_, rfl⟩
  have gV : Grew W V := by rw [← hV]; (show Grew _ _; (try simp only [← Array.append_assoc]); repeat (first | (with_reducible exact Grew.same_o) | (with_reducible exact Grew.refl _) | (with_reducible assumption) | (with_reducible refine Grew.alloc ?_ _) | (with_reducible refine Grew.app_r ?_) | ((with_reducible refine Grew.setCell ?_ ?_ _); rotate_left; (focus (dsimp only; first | omega | (simp only [size_ext, World.size_alloc, Array.size_append]; omega)))) | (with_reducible refine Grew.ext ?_ _ _) | (with_reducible refine Grew.drewN ?_ _) | (with_reducible refine Grew.drew ?_)))
  have gw := Grew.trans g0 gV
  have Y6 : Box V p6 #[.slice none 0 0, .int .i64 0, .int .i64 0, .int .i64 0, .int .i64 0] := by rw [hp6]; exact X2.grew gV
  have Y8 : Box V p8 #[.slice (some ⟨k, 0, none⟩) (R * C) (R * C), .int .i64 0, .int .i64 R, .int .i64 C, .int .i64 LD] := by rw [← hV]; exact Box.new' (by rw [hp8]; simp only [size_ext, Array.size_append])
  simp only [ext_ext] at hF
  have hFV : FW V k N := by rw [← hV]; exact hF.grew (by (show Grew _ _; (try simp only [← Array.append_assoc]); repeat (first | (with_reducible exact Grew.same_o) | (with_reducible exact Grew.refl _) | (with_reducible assumption) | (with_reducible refine Grew.alloc ?_ _) | (with_reducible refine Grew.app_r ?_) | ((with_reducible refine Grew.setCell ?_ ?_ _); rotate_left; (focus (dsimp only; first | omega | (simp only [size_ext, World.size_alloc, Array.size_append]; omega)))) | (with_reducible refine Grew.ext ?_ _ _) | (with_reducible refine Grew.drewN ?_ _) | (with_reducible refine Grew.drew ?_))))
  have lk := hF.lt
  simp only [size_ext, Array.size_append] at lk hk
  have n6k : p6 ≠ k := by omega
  have n8k : p8 ≠ k := by omega
  have z6 : w.heap.size ≤ p6 := by omega
  have zwk : w.heap.size ≤ k := by omega
  have t8 := Y8.cell
  have l8 := Y8.lt
  have hs := hsh V k hFV zwk gw
  simp only [← hp8]
  simp only [← hp6]
  clear hV hp6 hp8 X1 X2 b1 b2 s1 s2 f1 f2 hF hgd hDW lk hk hcl hsh
  go_upto_region 9 with (first | (go_at_call 184; ((with_reducible refine (hs).mono ?_); rintro e w1 ⟨rfl, hB, L, hL, lL, hnum⟩)))
  have q8 := (Box.but' Y8 hB (by simpa using n8k)).cell
  have l8 := (Box.but' Y8 hB (by simpa using n8k)).lt
  have Y6' := Box.but' Y6 hB (by simpa using n6k)
  have q6 := Y6'.cell
  have f6 := Y6'.frozen
  have l6 := Y6'.lt
  have g1 : Grew w w1 := hB.grew0 gw (by intro q hq; simp at hq; omega)
  have HN := hid hnum
  clear hs hB hnum t8 lN
  go_wp2
  refine bodyPost_ret (v := .tuple #[.agg #[.slice (some ⟨k, 0, none⟩) (R * C) (R * C), .int .i64 0, .int .i64 R, .int .i64 C, .int .i64 LD], .int .i64 0]) (by simp [results, Try.results109, go_sem, *]) rfl ?_
  exact ⟨k, L, rfl, zwk, by (repeat (first | (with_reducible assumption) | ((with_reducible refine FW.ext_set ?_ ?_ ?_ _); rotate_left; (focus (simp only [size_setCell', World.size_alloc, size_ext, size_upd]; omega)); (focus (dsimp only; omega))) | ((with_reducible refine FW.setCell_ne ?_ ?_ _); rotate_left; (focus (dsimp only; omega))) | (with_reducible refine FW.ext ?_ _ _) | (with_reducible refine FW.alloc ?_ _))), lL, HN.out, by (show Grew _ _; repeat (first | (with_reducible exact Grew.refl _) | (with_reducible assumption) | (with_reducible exact Grew.same_o) | (with_reducible exact Grew.app_o) | (with_reducible refine Grew.ext ?_ _ _) | (with_reducible refine Grew.alloc ?_ _) | ((with_reducible refine Grew.setCell ?_ ?_ _); rotate_left; (focus (dsimp only; first | omega | (simp only [size_ext, World.size_alloc, Array.size_append]; omega)))) | (with_reducible refine Grew.drewN ?_ _) | (with_reducible refine Grew.drew ?_)))⟩
set_option maxRecDepth 100000 in
set_option maxHeartbeats 2000000 in
/-- equil.Scale, of what is no matrix. -/
theorem scale_bad (x : MatM) (D VR VC : Value) (w : World) (hD : FS w D x.ws) (hx : x.good = false) (hwf : x.wf) :
   Calls Try.prog 109 #[.agg #[D, .int .i64 x.off, .int .i64 x.rows, .int .i64 x.cols, .int .i64 x.ld], VR, VC] w (fun e w' => e = .returned (.tuple #[.agg #[.slice none 0 0, .int .i64 0, .int .i64 0, .int .i64 0, .int .i64 0], .int .i64 1]) ∧ ∃ o n, w' = ext w o n) := by
  have hgd : ∀ w', FS w' D x.ws → Calls Try.prog 130 #[.agg #[D, .int .i64 x.off, .int .i64 x.rows, .int .i64 x.cols, .int .i64 x.ld]] w' (fun e w2 => e = .returned (.bool false) ∧ ∃ o n, w2 = ext w' o n) := fun w' h => by
    have := good_any x D w' h hwf; rw [hx] at this; exact this
  clear hx hwf
  go_enter Try.func109, Try.ntmps109
  refine seq_stop ?_
  go_wp2
  refine stop_go (fun W hW => ?_)
  have s1 : w.heap.size < W.heap.size := by rw [hW]; simp only [World.size_alloc]; omega
  have b1 : ∀ i, W.cell? ⟨w.heap.size, i, none⟩ = (#[D, .int .i64 x.off, .int .i64 x.rows, .int .i64 x.cols, .int .i64 x.ld] : Array Value)[i]? := by intro i; rw [hW]; go_simp
  have X1 : Box W (w.heap.size) #[D, .int .i64 x.off, .int .i64 x.rows, .int .i64 x.cols, .int .i64 x.ld] := by rw [hW]; refine Box.grew ?_ ((Grew.refl _).alloc _); exact Box.new' (by first | rfl | (simp only [World.size_alloc]; done) | (simp only [World.size_alloc]; omega))
  have f1 : ∀ i, W.frozen? ⟨w.heap.size, i, none⟩ = false := by intro i; rw [hW]; go_simp
  have s2 : w.heap.size + 1 < W.heap.size := by rw [hW]; simp only [World.size_alloc]; omega
  have b2 : ∀ i, W.cell? ⟨w.heap.size + 1, i, none⟩ = (#[.slice none 0 0, .int .i64 0, .int .i64 0, .int .i64 0, .int .i64 0] : Array Value)[i]? := by intro i; rw [hW]; go_simp
  have X2 : Box W (w.heap.size + 1) #[.slice none 0 0, .int .i64 0, .int .i64 0, .int .i64 0, .int .i64 0] := by rw [hW]; exact Box.new' (by first | rfl | (simp only [World.size_alloc]; done) | (simp only [World.size_alloc]; omega))
  have f2 : ∀ i, W.frozen? ⟨w.heap.size + 1, i, none⟩ = false := by intro i; rw [hW]; go_simp
  have g0 : Grew w W := by rw [hW]; exact ((Grew.refl _).alloc _).alloc _
  clear hW
  have hDW := hD.grew g0
  go_wp2_with (first | (go_at_call 130; ((with_reducible refine (hgd _ ?_).mono ?_); (focus (first | (with_reducible assumption) | (with_reducible refine FS.ext ?_ _ _; with_reducible assumption) | (with_reducible refine IS.ext ?_ _ _; with_reducible assumption) | (refine hDu _ ?_; with_reducible assumption) | (refine hOu _ ?_; with_reducible assumption) | (refine hDa _ ?_; with_reducible assumption) | (refine hDb _ ?_; with_reducible assumption) | (refine hDc _ ?_; with_reducible assumption) | (refine hDd _ ?_; with_reducible assumption) | (refine FW.fs ?_ (by omega) _; with_reducible assumption) | (refine WS.fs ?_; with_reducible assumption) | (refine FW.fs ?_ (by omega) _; assumption) | omega | assumption)); rintro e w1 ⟨rfl, o1, n1, rfl⟩)))
  refine bodyPost_ret (v := .tuple #[.agg #[.slice none 0 0, .int .i64 0, .int .i64 0, .int .i64 0, .int .i64 0], .int .i64 1]) (by simp [results, Try.results109, go_sem, *]) rfl ?_
  exact ⟨rfl, by (show Grew _ _; repeat (first | (with_reducible exact Grew.refl _) | (with_reducible assumption) | (with_reducible exact Grew.same_o) | (with_reducible exact Grew.app_o) | (with_reducible refine Grew.ext ?_ _ _) | (with_reducible refine Grew.alloc ?_ _) | ((with_reducible refine Grew.setCell ?_ ?_ _); rotate_left; (focus (dsimp only; first | omega | (simp only [size_ext, World.size_alloc, Array.size_append]; omega)))) | (with_reducible refine Grew.drewN ?_ _) | (with_reducible refine Grew.drew ?_)))⟩
end Go.Proofs.Ytcmggfpcbijcjaa
end
section
/-
  Plain: a matrix scaled by its own exponents (EquilLike).
-/
set_option linter.unusedSimpArgs false
set_option linter.unusedVariables false
open Go Go.RowKit Sedge
namespace Go.Proofs.Ytcmggfpcbijcjaa
theorem best_ge {X : Nat → Nat} {e : Nat → Int} : ∀ n b, bestTo X e n = some b → ∀ k, k < n → feq0 (X k) = false → e k ≤ b
  | 0, b, h, k, hk, _ => by omega
  | n + 1, b, h, k, hk, hq => by
    unfold bestTo at h
    by_cases hz : feq0 (X n) = true
    · rw [if_pos hz] at h
      by_cases e1 : k = n
      · subst e1; rw [hz] at hq; cases hq
      · exact best_ge n b h k (by omega) hq
    · rw [if_neg hz] at h
      cases hb : bestTo X e n with
      | none =>
        rw [hb] at h; simp at h
        by_cases e1 : k = n
        · subst e1; omega
        · exfalso
          have : ∀ m, bestTo X e m = none → ∀ k, k < m → feq0 (X k) = true := fun m => by
            induction m with
            | zero => intro _ k hk; omega
            | succ m ih =>
              intro hm k hk
              unfold bestTo at hm
              by_cases hz : feq0 (X m) = true
              · rw [if_pos hz] at hm
                by_cases e2 : k = m
                · subst e2; exact hz
                · exact ih hm k (by omega)
              · rw [if_neg hz] at hm; cases hm
          have := this n hb k (by omega)
          rw [this] at hq; cases hq
      | some c =>
        rw [hb] at h; simp at h
        by_cases e1 : k = n
        · subst e1; omega
        · have := best_ge n c hb k (by omega) hq; omega
theorem best_att {X : Nat → Nat} {e : Nat → Int} : ∀ n b, bestTo X e n = some b → ∃ k, k < n ∧ feq0 (X k) = false ∧ e k = b
  | 0, b, h => by cases h
  | n + 1, b, h => by
    unfold bestTo at h
    by_cases hz : feq0 (X n) = true
    · rw [if_pos hz] at h
      obtain ⟨k, h1, h2, h3⟩ := best_att n b h
      exact ⟨k, by omega, h2, h3⟩
    · rw [if_neg hz] at h
      have hz' : feq0 (X n) = false := by simpa using hz
      cases hb : bestTo X e n with
      | none => rw [hb] at h; simp at h; exact ⟨n, by omega, hz', h⟩
      | some c =>
        rw [hb] at h; simp at h
        by_cases hc : c ≤ e n
        · exact ⟨n, by omega, hz', by omega⟩
        · obtain ⟨k, h1, h2, h3⟩ := best_att n c hb
          exact ⟨k, by omega, h2, by omega⟩
/-- At least 1. -/
def geOne (v : Nat) : Bool := D64.order v 4607182418800017408 == some .gt || D64.order v 4607182418800017408 == some .eq
theorem geOne_of {v : Nat} (h : (flt 4607182418800017408 v || feq 4607182418800017408 v) = true) (hf : fin v = true) : geOne v = true := by
  have f1 : fin 4607182418800017408 = true := by decide +kernel
  have a := order_val f1 hf
  have b := order_val hf f1
  unfold geOne
  rw [Bool.or_eq_true] at h ⊢
  rcases h with h | h
  · exact .inl (b.1.2 (a.2.2.1 h))
  · exact .inr (b.2.1.2 (a.2.1.1 h).symm)
theorem fscale_fin {x : Nat} {k : Int} (hx : x < 2 ^ 64) (hk : pKind x = 0) (h0 : pMag x ≠ 0) (h1 : -5000 ≤ k ∧ k ≤ 5000) (h : fexp x + k ≤ 0) : fin (fabs (fscale x k)) = true := by
  have ek : kcl k = k := by unfold kcl; omega
  have e : fscale x k = D64.nearest (pNeg x) (pMag x) (pExp x + k) := by unfold fscale; rw [if_pos ⟨hk, h0⟩, ek]
  have ef : fexp x = pExp x + (pMag x).log2 := by unfold fexp; rw [if_pos ⟨hk, h0⟩]
  rw [ef] at h
  obtain ⟨a1, a2, _, _⟩ := scale_small (s := pNeg x) (p := pExp x + k) h0 (pMag_lt x) (by omega)
  rw [← e] at a1 a2
  rw [(fabs_val a2).1, a1]
theorem heldZ_id {k : Int} (h : -1000000 ≤ k ∧ k ≤ 1000000) : heldZ k = k := by unfold heldZ; omega
/-- THE PLAIN LAW. -/
theorem like_law {M : Nat → Nat → Nat} {R C : Nat} (hM : ∀ i j, i < R → j < C → pKind (M i j) = 0 ∧ M i j < 2 ^ 64) (h1 : ∀ k, k < R → rowB M C k ≠ none) (h2 : ∀ k, k < C → colB M R (rowsTo' M C R) k ≠ none) {j : Nat} (hj : j < C) :
    (∀ i, i < R → flt (fabs (shF (rowsTo' M C R) (colsTo' M R (rowsTo' M C R) C) i j (M i j))) 4611686018427387904 = true) ∧ ∃ i, i < R ∧ geOne (fabs (shF (rowsTo' M C R) (colsTo' M R (rowsTo' M C R) C) i j (M i j))) = true := by
  obtain ⟨rs, hrs⟩ : ∃ rs, rs = rowsTo' M C R := ⟨_, rfl⟩
  have brs := rowsTo'_in h1
  rw [← hrs] at brs h2 ⊢
  have hcb := h2 j hj
  obtain ⟨b, hb⟩ : ∃ b, colB M R rs j = some b := by
    cases hq : colB M R rs j with
    | none => exact absurd hq hcb
    | some b => exact ⟨b, rfl⟩
  have ec : (colsTo' M R rs C).getD j 0 = -b := by
    unfold colsTo'
    rw [List.getD_eq_getElem?_getD, List.getElem?_map, List.getElem?_range hj]
    show -(bestI (colB M R rs j)) = -b
    rw [hb]; rfl
  have hbr : -100000 ≤ b ∧ b ≤ 100000 := bestTo_in (fun k => by have := fexp_range' (M k j); have := brs k; omega) R b hb
  have hatt := best_att R b hb
  have hge := best_ge R b hb
  have hbr2 : -3000 ≤ b ∧ b ≤ 3000 := by
    obtain ⟨k, _, _, h⟩ := hatt
    have := fexp_range' (M k j)
    have := brs k
    omega
  have hk : ∀ i, heldZ (heldZ (rs.getD i 0) + heldZ ((colsTo' M R rs C).getD j 0)) = rs.getD i 0 + -b := fun i => by
    have := brs i
    have e1 := heldZ_id (k := rs.getD i 0) (by omega)
    have e2 := heldZ_id (k := -b) (by omega)
    rw [ec, e1, e2, heldZ_id (by omega)]
  constructor
  · intro i hi
    obtain ⟨m1, m2⟩ := hM i j hi hj
    unfold shF
    rw [hk i]
    by_cases hz : pMag (M i j) = 0
    · have e : fscale (M i j) (rs.getD i 0 + -b) = M i j := by unfold fscale; rw [if_neg (fun h => h.2 hz)]
      rw [e]
      obtain ⟨c1, c2, c3⟩ := parts_abs (M i j)
      have hf : fin (M i j) = true := by rw [fin_kind m2]; simpa using m1
      obtain ⟨b1, b2⟩ := fabs_val m2
      rw [hf] at b1
      have v0 : val (M i j) = 0 := by
        have hr : D64.read (M i j) = .number (pNeg (M i j)) (pMag (M i j)) (pExp (M i j)) := by rw [read_eq _ m2, if_pos m1]
        rw [val_of hr, hz, dat_zero]
      have f2 : fin 4611686018427387904 = true := by decide +kernel
      rw [(order_val b1 f2).2.2, b2 hf, v0]
      decide +kernel
    · have hq : feq0 (M i j) = false := by unfold feq0; rw [ord_zero_eq _ m2 m1]; simpa using hz
      have h3 := hge i hi hq
      have := brs i
      exact (fscale_small m2 m1 hz (by omega) (by omega)).1
  · obtain ⟨i, hi, hq, he⟩ := hatt
    obtain ⟨m1, m2⟩ := hM i j hi hj
    have hz : pMag (M i j) ≠ 0 := by
      intro h
      unfold feq0 at hq
      rw [ord_zero_eq _ m2 m1, h] at hq
      cases hq
    refine ⟨i, hi, ?_⟩
    unfold shF
    rw [hk i]
    have := brs i
    have hs := fscale_small (k := rs.getD i 0 + -b) m2 m1 hz (by omega) (by omega)
    refine geOne_of (hs.2 (by omega)) ?_
    exact fscale_fin m2 m1 hz (by omega) (by omega)
end Go.Proofs.Ytcmggfpcbijcjaa
end
section
/-
  Plain: a number scaled up by a power of 2, and back.
-/
set_option linter.unusedSimpArgs false
set_option linter.unusedVariables false
open Go Go.RowKit Sedge Ieee
namespace Go.Proofs.Ytcmggfpcbijcjaa
theorem parts_of_read {y : Nat} (hy : y < 2 ^ 64) {s : Bool} {m : Nat} {p : Int} (h : D64.read y = .number s m p) : pKind y = 0 ∧ pNeg y = s ∧ pMag y = m ∧ pExp y = p := by
  rw [read_eq y hy] at h
  by_cases k : pKind y = 0
  · rw [if_pos k] at h
    simp only [Datum.number.injEq] at h
    exact ⟨k, h.1, h.2.1, h.2.2⟩
  · rw [if_neg k] at h
    split at h <;> cases h
/-- Digits as they are kept, read back. -/
theorem read_made (s : Bool) (l : Int) (M : Nat) (hl : -1074 ≤ l) (hM : M < 2 ^ 53) (hn : 2 ^ 52 ≤ M ∨ l = -1074) (hf : (l + 1074).toNat * BN + M < IR) :
    D64.read (D64.word s ((l + 1074).toNat * BN + M)) = .number s M l := by
  have p52 : (2:Nat) ^ 52 = 4503599627370496 := by decide
  have p53 : (2:Nat) ^ 53 = 9007199254740992 := by decide
  rw [p52] at hn
  rw [p53] at hM
  have hIR : IR = 9218868437227405312 := by decide +kernel
  by_cases h : 4503599627370496 ≤ M
  · have e : (l + 1074).toNat * BN + M = (l + 1075).toNat * BN + (M - 4503599627370496) := by unfold BN; omega
    have h2 : (l + 1075).toNat ≤ 2046 := by rw [hIR] at hf; unfold BN at hf; omega
    rw [e, read_mid s _ _ (by omega) h2 (by unfold BN; omega)]
    rw [show BN + (M - 4503599627370496) = M by unfold BN; omega, show (((l + 1075).toNat : Nat) : Int) - 1075 = l by omega]
  · have hl0 : l = -1074 := by omega
    subst hl0
    have e : (-1074 + 1074 : Int).toNat * BN + M = M := by simp
    rw [e, read_word s M (by unfold SW; omega), if_pos (by unfold BN; omega)]
theorem canon_word {x : Nat} (hx : x < 2 ^ 64) : x = D64.word (pNeg x) (expo x * BN + frac x) := by
  have p63 : (2:Nat) ^ 63 = 9223372036854775808 := by decide
  have p64 : (2:Nat) ^ 64 = 18446744073709551616 := by decide
  have hSW : SW = 9223372036854775808 := by decide +kernel
  rw [word_sN, ← rung_eq, p63]
  unfold pNeg sN
  rw [hSW]
  rw [p64] at hx
  by_cases h : x / 9223372036854775808 = 1
  · simp [h]; omega
  · simp [h]; omega
theorem rung_norm (E F : Nat) (h : E ≠ 0) : ((E : Int) - 1075 + ((0 : Nat) : Int) + 1074).toNat * BN + (F + BN) = E * BN + F := by
  have e : ((E : Int) - 1075 + ((0 : Nat) : Int) + 1074).toNat = E - 1 := by omega
  rw [e]
  obtain ⟨n, rfl⟩ : ∃ n, E = n + 1 := ⟨E - 1, by omega⟩
  rw [Nat.add_sub_cancel, Nat.add_mul, Nat.one_mul]
  generalize n * BN = a
  generalize BN = b
  omega
theorem rung_le {x : Nat} (h : expo x ≠ 2047) : expo x * BN + frac x ≤ IR := by
  have h1 := expo_lt x
  have h2 := frac_lt' x
  unfold BN IR; omega
/-- A finite number is the nearest to itself. -/
theorem nearest_parts {x : Nat} (hx : x < 2 ^ 64) (hk : pKind x = 0) (h0 : pMag x ≠ 0) : D64.nearest (pNeg x) (pMag x) (pExp x) = x := by
  have hge := pExp_ge x hk
  have hf := frac_lt' x
  have he := expo_lt x
  have hIR : IR = 9218868437227405312 := by decide +kernel
  have p52 : (2:Nat) ^ 52 = 4503599627370496 := by decide
  have hne : expo x ≠ 2047 := by
    intro e; unfold pKind at hk; rw [if_pos e] at hk; split at hk <;> omega
  have h2 : 2 ^ 52 ≤ pMag x ∨ pExp x ≤ -1074 := by
    unfold pMag pExp
    rw [if_neg hne, if_neg hne, p52]
    by_cases h : expo x = 0
    · right; rw [if_pos h]; omega
    · left; rw [if_neg h]; unfold BN; omega
  have hm := pMag_lt x
  rw [nearest_at (pNeg x) (pMag x) (pExp x) 0 h0 hm h2 (by simp; omega) (by simp), rne_zero]
  have e : (pExp x + (0 : Nat) + 1074).toNat * BN + pMag x = expo x * BN + frac x := by
    unfold pMag pExp
    rw [if_neg hne, if_neg hne]
    by_cases h : expo x = 0
    · rw [if_pos h, if_pos h, h]; simp
    · rw [if_neg h, if_neg h]; exact rung_norm _ _ h
  have hle := rung_le hne
  rw [e, Nat.min_eq_left hle]
  exact (canon_word hx).symm
theorem kcl_in {k : Int} (h : -5000 ≤ k ∧ k ≤ 5000) : kcl k = k := by unfold kcl; omega
/-- Up, and back. -/
theorem fscale_back {x : Nat} (hx : IsF x x) {k : Int} (h0 : 0 ≤ k) (h1 : k ≤ 255) (hf : finB (fscale x k) = true) : fscale (fscale x k) (-k) = x := by
  by_cases hp : pKind x = 0 ∧ pMag x ≠ 0
  · obtain ⟨hk, hm⟩ := hp
    have hge := pExp_ge x hk
    have hlt := pMag_lt x
    have e1 : fscale x k = D64.nearest (pNeg x) (pMag x) (pExp x + k) := by
      unfold fscale; rw [if_pos ⟨hk, hm⟩, kcl_in (by omega)]
    rw [e1] at hf ⊢
    have hself := nearest_parts hx.1 hk hm
    generalize pNeg x = s at *
    generalize pExp x = e at *
    generalize pMag x = m at *
    have hlog := log2_le_52 hm hlt
    have hle : lastP m (e + k) ≤ e + k := by unfold lastP; omega
    have hge2 := lastP_ge m (e + k)
    have hor := lastP_or m (e + k)
    obtain ⟨j, hj⟩ : ∃ j : Nat, lastP m (e + k) = e + k - j := ⟨(e + k - lastP m (e + k)).toNat, by omega⟩
    have hkept : keptP m (e + k) = m * 2 ^ j := by
      unfold keptP
      rw [hj, show (e + k - j - (e + k)).toNat = 0 by omega, show (e + k - (e + k - (j : Int))).toNat = j by omega, rne_zero, Nat.shiftLeft_eq]
    obtain ⟨a, b⟩ := log2_spec m hm
    have hj52 : m.log2 + j ≤ 52 := by omega
    have hM : m * 2 ^ j < 2 ^ 53 := by
      have := Nat.mul_lt_mul_of_pos_right b (Nat.two_pow_pos j)
      rw [← Nat.pow_add] at this
      exact Nat.lt_of_lt_of_le this (Nat.pow_le_pow_right (by decide) (by omega))
    have hn : 2 ^ 52 ≤ m * 2 ^ j ∨ e + k - j = -1074 := by
      rcases hor with h | h
      · left
        have hh : m.log2 + j = 52 := by omega
        have := Nat.mul_le_mul_right (2 ^ j) a
        rw [← Nat.pow_add, hh] at this
        exact this
      · right; omega
    have hnz : m * 2 ^ j ≠ 0 := Nat.mul_ne_zero hm (Nat.pos_iff_ne_zero.1 (Nat.two_pow_pos j))
    have hw := nearest_eq s m (e + k) hm
    rw [hj, hkept] at hw
    rw [hj] at hge2
    by_cases hfin : (e + k - j + 1074).toNat * BN + m * 2 ^ j < IR
    · rw [Nat.min_eq_left (Nat.le_of_lt hfin)] at hw
      have hr := read_made s (e + k - j) (m * 2 ^ j) hge2 hM hn hfin
      have hlt64 := (isF_word s _ (Nat.le_of_lt hfin)).1
      rw [← hw] at hr hlt64
      obtain ⟨p1, p2, p3, p4⟩ := parts_of_read hlt64 hr
      have e2 : fscale (D64.nearest s m (e + k)) (-k) = D64.nearest s (m * 2 ^ j) (e + k - j + -k) := by
        unfold fscale
        rw [if_pos ⟨p1, by rw [p3]; exact hnz⟩, p2, p3, p4, kcl_in (by omega)]
      rw [e2, show e + k - (j : Int) + -k = e - j by omega, nearest_scale s m j e hm]
      exact hself
    · rw [Nat.min_eq_right (by omega)] at hw
      rw [hw] at hf
      exfalso
      have : ∀ s, finB (D64.word s IR) = false := by intro s; cases s <;> decide +kernel
      rw [this s] at hf
      cases hf
  · have e1 : fscale x k = x := by unfold fscale; rw [if_neg hp]
    rw [e1]
    unfold fscale; rw [if_neg hp]
end Go.Proofs.Ytcmggfpcbijcjaa
end
section
/-
  Plain: is a scaled number exact? (EquilScales)
-/
set_option linter.unusedSimpArgs false
set_option linter.unusedVariables false
open Go Go.RowKit Sedge Ieee
namespace Go.Proofs.Ytcmggfpcbijcjaa
theorem log2_le_of_le {a b : Nat} (ha : a ≠ 0) (h : a ≤ b) : a.log2 ≤ b.log2 := by
  have hb : b ≠ 0 := by omega
  rw [Nat.le_log2 hb]
  exact Nat.le_trans (Nat.log2_self_le ha) h
theorem rne_le {n D : Nat} (hD : 1 ≤ D) (hn : n ≠ 0) : rne n D ≤ n := by
  have h := rne_hi n D
  have h2 : 2 ≤ 2 ^ D := by
    have := Nat.pow_le_pow_right (show 0 < 2 by decide) hD
    simpa using this
  obtain ⟨q, hq⟩ : ∃ q, q = rne n D := ⟨_, rfl⟩
  obtain ⟨P, hP⟩ : ∃ P, P = 2 ^ D := ⟨_, rfl⟩
  rw [← hq, ← hP] at h
  rw [← hq]
  rw [← hP] at h2
  rcases Nat.lt_or_ge n q with h3 | h3
  · exfalso
    have h4 : (n + 1) * P ≤ q * P := Nat.mul_le_mul_right P h3
    have h5 : n * 2 ≤ n * P := Nat.mul_le_mul_left n h2
    rw [Nat.add_mul, Nat.one_mul] at h4
    omega
  · exact h3
theorem rne_fix {q j : Nat} (hj : 1 ≤ j) (hq : q ≠ 0) : rne q j ≠ q := by
  intro h
  have h1 := rne_hi q j
  rw [h] at h1
  obtain ⟨P, hP⟩ : ∃ P, P = 2 ^ j := ⟨_, rfl⟩
  rw [← hP] at h1
  have h2 : 2 ≤ P := by
    have := Nat.pow_le_pow_right (show 0 < 2 by decide) hj
    rw [hP]; simpa using this
  have h3 : q * 2 ≤ q * P := Nat.mul_le_mul_left q h2
  have h4 : 1 * P ≤ q * P := Nat.mul_le_mul_right P (by omega)
  by_cases h5 : q = 1
  · subst h5
    have h6 : P = 2 := by omega
    have h7 : j = 1 := by
      rcases Nat.lt_or_ge 1 j with h8 | h8
      · have := Nat.pow_le_pow_right (show 0 < 2 by decide) h8
        rw [← hP] at this; omega
      · omega
    subst h7
    revert h
    decide +kernel
  · have h6 : 2 * P ≤ q * P := Nat.mul_le_mul_right P (by omega)
    omega
/-- What is kept, doubled up to where it was. -/
theorem rne_back {n D : Nat} (hD : 1 ≤ D) (hn : n ≠ 0) (hq : rne n D ≠ 0) : rne n D * 2 ^ (n.log2 - (rne n D).log2) = n ↔ rne n D * 2 ^ D = n := by
  obtain ⟨q, hqq⟩ : ∃ q, q = rne n D := ⟨_, rfl⟩
  rw [← hqq] at hq ⊢
  have hle : q ≤ n := by rw [hqq]; exact rne_le hD hn
  have hl := log2_le_of_le hq hle
  constructor
  · intro h
    obtain ⟨t, ht⟩ : ∃ t, t = n.log2 - q.log2 := ⟨_, rfl⟩
    rw [← ht] at h
    rcases Nat.lt_or_ge t D with h1 | h1
    · exfalso
      have h2 : rne (q * 2 ^ t) (D - t + t) = rne q (D - t) := rne_scale q t (D - t)
      rw [show D - t + t = D by omega, h, ← hqq] at h2
      exact rne_fix (by omega) hq h2.symm
    · have h2 : rne (q * 2 ^ (t - D) * 2 ^ D) D = q * 2 ^ (t - D) := rne_exact _ D
      rw [Nat.mul_assoc, ← Nat.pow_add, show t - D + D = t by omega, h, ← hqq] at h2
      have h3 : 2 ^ (t - D) = 1 := by
        have : q * 1 = q * 2 ^ (t - D) := by rw [Nat.mul_one]; exact h2
        exact (Nat.eq_of_mul_eq_mul_left (by omega) this).symm
      have h4 : t - D = 0 := by
        rcases Nat.eq_zero_or_pos (t - D) with h5 | h5
        · exact h5
        · have := Nat.pow_le_pow_right (show 0 < 2 by decide) h5
          rw [h3] at this
          have : 2 ^ 1 ≤ 1 := this
          omega
      rw [show D = t by omega]; exact h
  · intro h
    have h2 : n.log2 = q.log2 + D := by rw [← h]; exact log2_mul_pow q D hq
    rw [show n.log2 - q.log2 = D by omega]; exact h
/-- Where digits are lost. -/
theorem kept_lost {n : Nat} {p : Int} (h0 : n ≠ 0) (hn : n < 2 ^ 53) (h : p < lastP n p) : lastP n p = -1074 ∧ keptP n p = rne n (-1074 - p).toNat := by
  have hl := log2_le_52 h0 hn
  have h1 : lastP n p = -1074 := by unfold lastP at h ⊢; omega
  refine ⟨h1, ?_⟩
  unfold keptP
  rw [h1, show (p - -1074).toNat = 0 by omega, Nat.shiftLeft_zero]
theorem word_fin {s : Bool} {m : Nat} {p : Int} (h0 : m ≠ 0) (hf : fin (D64.nearest s m p) = true) : (lastP m p + 1074).toNat * BN + keptP m p < IR := by
  rcases Nat.lt_or_ge ((lastP m p + 1074).toNat * BN + keptP m p) IR with h1 | h1
  · exact h1
  · rw [nearest_eq s m p h0, Nat.min_eq_right h1] at hf
    unfold fin at hf
    rw [read_word s IR (by decide +kernel), if_neg (by decide +kernel), if_neg (by decide +kernel), if_pos rfl] at hf
    cases hf
/-- What the program asks. -/
def exP (v w : Nat) : Bool := feq0 v || (!(feq0 w) && feq (fscale w (fexp v - fexp w)) v)
theorem val_pexp {x : Nat} (hx : x < 2 ^ 64) (hk : pKind x = 0) : val x = dat (pNeg x) (pMag x) (pExp x) := by
  rw [val_of (by rw [read_eq x hx, if_pos hk])]
theorem feq0_parts {x : Nat} (hx : x < 2 ^ 64) (hk : pKind x = 0) : feq0 x = decide (pMag x = 0) := ord_zero_eq x hx hk
theorem dat_inj_pos {s : Bool} {m n : Nat} {p : Int} (h : dat s m p = dat s n p) : m = n := by
  unfold dat at h
  have h1 := p2_pos p
  have hs : sgn s * sgn s = 1 := by cases s <;> decide +kernel
  have h2 : (m : Rat) * p2 p = (n : Rat) * p2 p := by
    have := congrArg (fun q => sgn s * q) h
    simp only [← Rat.mul_assoc, hs, Rat.one_mul] at this
    exact this
  have h3 : (m : Rat) = n := by
    have h4 : (m : Rat) * p2 p * p2 (-p) = (n : Rat) * p2 p * p2 (-p) := by rw [h2]
    rwa [Rat.mul_assoc, Rat.mul_assoc, p2_inv, Rat.mul_one, Rat.mul_one] at h4
  exact Rat.natCast_inj.1 h3
theorem dat_up (s : Bool) (m j : Nat) (p : Int) : dat s (m * 2 ^ j) (p - j) = dat s m p := by
  unfold dat
  have : ((m * 2 ^ j : Nat) : Rat) * p2 (p - j) = (m : Rat) * p2 p := by
    rw [Rat.natCast_mul, ← p2_nat, Rat.mul_assoc, ← p2_add, show (j : Int) + (p - j) = p by omega]
  rw [this]
/-- Where no digit is lost. -/
theorem read_exact {s : Bool} {m : Nat} {e : Int} (h0 : m ≠ 0) (hm : m < 2 ^ 53) (hl : lastP m e ≤ e) (h9 : lastP m e ≤ 971) : ∃ j : Nat, lastP m e = e - j ∧ D64.read (D64.nearest s m e) = .number s (m * 2 ^ j) (e - j) ∧ D64.nearest s m e < 2 ^ 64 := by
  obtain ⟨j, hj⟩ : ∃ j : Nat, lastP m e = e - j := ⟨(e - lastP m e).toNat, by omega⟩
  have hge := lastP_ge m e
  have hlog := log2_le_52 h0 hm
  have hor := lastP_or m e
  obtain ⟨a, b⟩ := log2_spec m h0
  have hkept : keptP m e = m * 2 ^ j := by
    unfold keptP
    rw [hj, show (e - j - e).toNat = 0 by omega, show (e - (e - (j : Int))).toNat = j by omega, rne_zero, Nat.shiftLeft_eq]
  have hj52 : m.log2 + j ≤ 52 := by omega
  have hM : m * 2 ^ j < 2 ^ 53 := by
    have := Nat.mul_lt_mul_of_pos_right b (Nat.two_pow_pos j)
    rw [← Nat.pow_add] at this
    exact Nat.lt_of_lt_of_le this (Nat.pow_le_pow_right (by decide) (by omega))
  have hn : 2 ^ 52 ≤ m * 2 ^ j ∨ e - j = -1074 := by
    rcases hor with h | h
    · left
      have hh : m.log2 + j = 52 := by omega
      have := Nat.mul_le_mul_right (2 ^ j) a
      rw [← Nat.pow_add, hh] at this
      exact this
    · right; omega
  have hlt : (e - j + 1074).toNat * BN + m * 2 ^ j < IR := by
    have h1 : (e - j + 1074).toNat ≤ 2045 := by omega
    have h2 := Nat.mul_le_mul_right BN h1
    have h3 : 2045 * BN + 2 ^ 53 ≤ IR := by decide +kernel
    omega
  have e2 : D64.nearest s m e = D64.word s ((e - j + 1074).toNat * BN + m * 2 ^ j) := by
    rw [nearest_eq s m e h0, hj, hkept, Nat.min_eq_left (Nat.le_of_lt hlt)]
  refine ⟨j, hj, ?_, ?_⟩
  · rw [e2]; exact read_made s (e - j) (m * 2 ^ j) (by omega) hM hn hlt
  · rw [e2]; exact word_lt s _ (Nat.lt_trans hlt (by decide +kernel))
/-- THE PLAIN LAW: what the program asks is what the reference asks. -/
theorem exact_law {v : Nat} {K : Int} (hv : IsF v v) (hk : pKind v = 0) (hw : pKind (fscale v K) = 0) (hK : -20000 ≤ K ∧ K ≤ 20000) : exP v (fscale v K) = decide (val (fscale v K) * p2 (-K) = val v) := by
  have hvlt := hv.1
  by_cases h0 : pMag v = 0
  · have e : fscale v K = v := by unfold fscale; rw [if_neg (fun h => h.2 h0)]
    have hv0 : val v = 0 := by rw [val_pexp hvlt hk, h0, dat_zero]
    have hf0 : feq0 v = true := by rw [feq0_parts hvlt hk, h0]; decide
    rw [e]
    unfold exP
    rw [hf0, hv0, Rat.zero_mul]
    simp
  · have ew : fscale v K = D64.nearest (pNeg v) (pMag v) (pExp v + kcl K) := by unfold fscale; rw [if_pos ⟨hk, h0⟩]
    have hf0 : feq0 v = false := by rw [feq0_parts hvlt hk]; simpa using h0
    have hself := nearest_parts hvlt hk h0
    have hm := pMag_lt v
    have hp := pExp_ge v hk
    have hfe : fexp v = pExp v + (pMag v).log2 := by unfold fexp; rw [if_pos ⟨hk, h0⟩]
    have hvv := val_pexp hvlt hk
    have hl52 := log2_le_52 h0 hm
    have hvf : fin v = true := by rw [fin_kind hvlt]; simpa using hk
    have hv0 : val v ≠ 0 := by
      intro h; rw [hvv] at h; exact h0 (dat_eq_zero h)
    obtain ⟨s, hs⟩ : ∃ s, s = pNeg v := ⟨_, rfl⟩
    obtain ⟨n, hn⟩ : ∃ n, n = pMag v := ⟨_, rfl⟩
    obtain ⟨e, he⟩ : ∃ e, e = pExp v := ⟨_, rfl⟩
    rw [← hs, ← hn, ← he] at ew hself hvv
    rw [← hn] at h0 hm hl52
    rw [← he] at hp
    rw [← hn, ← he] at hfe
    by_cases hK1 : 5000 < K
    · exfalso
      rw [ew, show kcl K = 5000 by unfold kcl; omega, nearest_high s n _ h0 hm (by omega)] at hw
      revert hw; cases s <;> decide +kernel
    by_cases hK2 : K < -5000
    · have e1 : fscale v K = D64.word s 0 := by rw [ew, show kcl K = -5000 by unfold kcl; omega, nearest_low s n _ h0 hm (by omega)]
      have e2 : feq0 (D64.word s 0) = true := by cases s <;> decide +kernel
      rw [e1, (word_zero s).1, Rat.zero_mul]
      unfold exP
      rw [hf0, e2]
      symm
      simpa using fun h => hv0 h.symm
    have ekK : kcl K = K := by unfold kcl; omega
    rw [ekK] at ew
    have hl9 : lastP n e ≤ 971 := by unfold lastP; omega
    have hle : lastP n e ≤ e := by unfold lastP; omega
    rcases Int.lt_or_le (e + K) (lastP n (e + K)) with hB | hA
    · -- digits are lost
      obtain ⟨hl, hkq⟩ := kept_lost h0 hm hB
      obtain ⟨D, hD⟩ : ∃ D : Nat, -1074 - (e + K) = D := ⟨(-1074 - (e + K)).toNat, by omega⟩
      have hD1 : 1 ≤ D := by omega
      rw [hD, Int.toNat_natCast] at hkq
      have hqle := rne_le hD1 h0
      have hback := rne_back hD1 h0
      obtain ⟨q, hq⟩ : ∃ q, q = rne n D := ⟨_, rfl⟩
      rw [← hq] at hkq hqle hback
      have hlt : (lastP n (e + K) + 1074).toNat * BN + keptP n (e + K) < IR := by
        rw [hl, hkq]
        have h3 : 2 ^ 53 < IR := by decide +kernel
        simp only [show ((-1074 : Int) + 1074).toNat = 0 from rfl]
        omega
      have hr : D64.read (fscale v K) = .number s q (-1074) := by
        rw [ew, nearest_eq s n _ h0, Nat.min_eq_left (Nat.le_of_lt hlt), hl, hkq]
        refine read_made s (-1074) q (by decide) (by omega) (.inr rfl) ?_
        rw [hl, hkq] at hlt; exact hlt
      have hWlt : fscale v K < 2 ^ 64 := by
        rw [ew, nearest_eq s n _ h0, Nat.min_eq_left (Nat.le_of_lt hlt)]
        exact word_lt s _ (Nat.lt_trans hlt (by decide +kernel))
      obtain ⟨w1, w2, w3, w4⟩ := parts_of_read hWlt hr
      have hWv := val_of hr
      obtain ⟨W, hW⟩ : ∃ W, W = fscale v K := ⟨_, rfl⟩
      rw [← hW] at hWlt w1 w2 w3 w4 hWv ⊢
      have eR : val W * p2 (-K) = dat s (q * 2 ^ D) e := by
        rw [hWv, show e = (e + D) - D by omega, dat_up s q D (e + D)]
        unfold dat
        rw [Rat.mul_assoc, Rat.mul_assoc, ← p2_add, show (-1074 : Int) + -K = e + D by omega]
      rw [eR, hvv]
      by_cases hq0 : q = 0
      · have e2 : feq0 W = true := by rw [feq0_parts hWlt w1, w3, hq0]; decide
        unfold exP
        rw [hf0, e2]
        symm
        simp only [Bool.not_true, Bool.false_and, Bool.or_false, decide_eq_false_iff_not]
        intro h
        have := dat_inj_pos h
        rw [hq0, Nat.zero_mul] at this
        exact h0 this.symm
      · have hb := hback hq0
        have e2 : feq0 W = false := by rw [feq0_parts hWlt w1, w3]; simpa using hq0
        have hfw : fexp W = -1074 + q.log2 := by unfold fexp; rw [if_pos ⟨w1, by rw [w3]; exact hq0⟩, w3, w4]
        have hlq := log2_le_of_le hq0 hqle
        obtain ⟨t, ht⟩ : ∃ t, t = n.log2 - q.log2 := ⟨_, rfl⟩
        rw [← ht] at hb
        have ed : fexp v - fexp W = e + t + 1074 := by rw [hfe, hfw]; omega
        have ef : fscale W (fexp v - fexp W) = D64.nearest s q (e + t) := by
          rw [ed]
          unfold fscale
          rw [if_pos ⟨w1, by rw [w3]; exact hq0⟩, w2, w3, w4, show kcl (e + t + 1074) = e + t + 1074 by unfold kcl; omega]
          congr 1; omega
        have hl2 : lastP q (e + t) = lastP n e := by unfold lastP; omega
        obtain ⟨j, hj, hr2, hlt2⟩ := read_exact (s := s) hq0 (by omega) (e := e + t) (by rw [hl2]; omega) (by rw [hl2]; exact hl9)
        have hv2 : val (D64.nearest s q (e + t)) = dat s (q * 2 ^ t) e := by
          rw [val_of hr2, dat_up s q j (e + t), ← dat_up s q t (e + t), show e + (t : Int) - t = e by omega]
        have hf2 := fin_of_read hr2
        unfold exP
        rw [hf0, e2, ef]
        simp only [Bool.not_false, Bool.true_and, Bool.false_or]
        have ho := (order_val hf2 hvf).2.1
        rw [hv2, hvv] at ho
        by_cases hx : q * 2 ^ D = n
        · rw [hx, decide_eq_true rfl]
          exact ho.2 (by rw [hb.2 hx])
        · rw [decide_eq_false (fun h => hx (dat_inj_pos h))]
          cases hfq : feq (D64.nearest s q (e + t)) v
          · rfl
          · exact absurd (hb.1 (dat_inj_pos (ho.1 hfq))) hx
    · -- none is
      have hw9 : lastP n (e + K) ≤ 971 := by
        have hWlt0 : D64.nearest s n (e + K) < 2 ^ 64 := by
          rw [nearest_eq s n _ h0]
          have : min ((lastP n (e + K) + 1074).toNat * BN + keptP n (e + K)) IR ≤ IR := Nat.min_le_right _ _
          exact word_lt s _ (Nat.lt_of_le_of_lt this (by decide +kernel))
        have hf : fin (D64.nearest s n (e + K)) = true := by rw [fin_kind hWlt0, ← ew]; simpa using hw
        have h2 := word_fin h0 hf
        rcases Int.lt_or_le 971 (lastP n (e + K)) with h3 | h3
        · exfalso
          have h4 : 2046 ≤ (lastP n (e + K) + 1074).toNat := by omega
          have h5 := Nat.mul_le_mul_right BN h4
          have h6 : 2 ^ 52 ≤ keptP n (e + K) := by
            rcases lastP_or n (e + K) with h7 | h7
            · exact kept_ge n (e + K) h0 h7
            · omega
          have h7 : IR = 2046 * BN + 2 ^ 52 := by decide +kernel
          omega
        · exact h3
      obtain ⟨j, hj, hr, hWlt⟩ := read_exact (s := s) h0 hm hA hw9
      rw [← ew] at hr hWlt
      obtain ⟨w1, w2, w3, w4⟩ := parts_of_read hWlt hr
      have hWv := val_of hr
      obtain ⟨W, hW⟩ : ∃ W, W = fscale v K := ⟨_, rfl⟩
      rw [← hW] at hWlt w1 w2 w3 w4 hWv ⊢
      have hnj : n * 2 ^ j ≠ 0 := Nat.mul_ne_zero h0 (Nat.pos_iff_ne_zero.1 (Nat.two_pow_pos j))
      have e2 : feq0 W = false := by rw [feq0_parts hWlt w1, w3]; simpa using hnj
      have hfw : fexp W = e + K + n.log2 := by unfold fexp; rw [if_pos ⟨w1, by rw [w3]; exact hnj⟩, w3, w4, log2_mul_pow n j h0]; push_cast; omega
      have ef : fscale W (fexp v - fexp W) = v := by
        rw [hfe, hfw, show e + (n.log2 : Int) - (e + K + n.log2) = -K by omega]
        unfold fscale
        rw [if_pos ⟨w1, by rw [w3]; exact hnj⟩, w2, w3, w4, show kcl (-K) = -K by unfold kcl; omega, show e + K - (j : Int) + -K = e - j by omega, nearest_scale s n j e h0]
        exact hself
      have eR : val W * p2 (-K) = val v := by
        rw [hWv, dat_up s n j (e + K), hvv]
        unfold dat
        rw [Rat.mul_assoc, Rat.mul_assoc, ← p2_add, show e + K + -K = e by omega]
      unfold exP
      rw [hf0, e2, ef, eR, decide_eq_true rfl]
      simp only [Bool.not_false, Bool.true_and, Bool.false_or]
      exact (order_val hvf hvf).2.1.2 rfl
end Go.Proofs.Ytcmggfpcbijcjaa
end
section
/-
  All of a table.
-/
set_option linter.unusedSimpArgs false
set_option linter.unusedVariables false
open Go Go.RowKit Sedge
namespace Go.Proofs.Ytcmggfpcbijcjaa
def exAll (R C : Nat) (P : Nat → Nat → Bool) : Bool := (List.range R).all fun i => (List.range C).all fun j => P i j
theorem exAll_iff {R C : Nat} {P : Nat → Nat → Bool} : exAll R C P = true ↔ ∀ i j, i < R → j < C → P i j = true := by
  unfold exAll
  simp only [List.all_eq_true, List.mem_range]
  exact ⟨fun h i j hi hj => h i hi j hj, fun h i hi j hj => h i j hi hj⟩
theorem exAll_no {R C i j : Nat} {P : Nat → Nat → Bool} (hi : i < R) (hj : j < C) (h : P i j = false) : exAll R C P = false := by
  cases hq : exAll R C P
  · rfl
  · have := exAll_iff.1 hq i j hi hj
    rw [h] at this; cases this
theorem exAll_congr {R C : Nat} {P Q : Nat → Nat → Bool} (h : ∀ i j, i < R → j < C → P i j = Q i j) : exAll R C P = exAll R C Q := by
  cases hq : exAll R C Q
  · cases hp : exAll R C P
    · rfl
    · have : exAll R C Q = true := exAll_iff.2 fun i j hi hj => by rw [← h i j hi hj]; exact exAll_iff.1 hp i j hi hj
      rw [hq] at this; cases this
  · exact exAll_iff.2 fun i j hi hj => by rw [h i j hi hj]; exact exAll_iff.1 hq i j hi hj
end Go.Proofs.Ytcmggfpcbijcjaa
end
section
/-
  Contract: equil.Exact.
-/
set_option linter.unusedSimpArgs false
set_option linter.unusedVariables false
open Go Go.RowKit Sedge
namespace Go.Proofs.Ytcmggfpcbijcjaa
set_option maxRecDepth 100000 in
set_option maxHeartbeats 2000000 in
/-- equil.Scale, where the lists are not as long as they should be. -/
theorem scale_sz (x : MatM) (D VR VC : Value) (rs cs : List Int) (w : World) (hD : FS w D x.ws) (hx : x.good = true) (hwf : x.wf) (hVR : IS .i64 w VR rs) (hVC : IS .i64 w VC cs) (hs : ¬ ((rs.length : Int) = x.rows ∧ (cs.length : Int) = x.cols)) :
   Calls Try.prog 109 #[.agg #[D, .int .i64 x.off, .int .i64 x.rows, .int .i64 x.cols, .int .i64 x.ld], VR, VC] w (fun e w' => e = .returned (.tuple #[.agg #[.slice none 0 0, .int .i64 0, .int .i64 0, .int .i64 0, .int .i64 0], .int .i64 3]) ∧ ∃ o n, w' = ext w o n) := by
  have hgd : ∀ w', FS w' D x.ws → Calls Try.prog 130 #[.agg #[D, .int .i64 x.off, .int .i64 x.rows, .int .i64 x.cols, .int .i64 x.ld]] w' (fun e w2 => e = .returned (.bool true) ∧ ∃ o n, w2 = ext w' o n) := fun w' h => by
    have := good_any x D w' h hwf; rw [hx] at this; exact this
  obtain ⟨aR, cR, rfl⟩ := hVR.shape
  obtain ⟨aC, cC, rfl⟩ := hVC.shape
  clear hx hwf
  by_cases h1 : (rs.length : Int) = x.rows
  · have h2 : ¬ (cs.length : Int) = x.cols := fun h => hs ⟨h1, h⟩
    have d1 : ((rs.length : Int) != x.rows) = false := by simpa using h1
    have d2 : ((cs.length : Int) != x.cols) = true := by simpa using h2
    clear h1 h2 hs
    go_enter Try.func109, Try.ntmps109
    refine seq_stop ?_
    go_wp2
    refine stop_go (fun W hW => ?_)
    have s1 : w.heap.size < W.heap.size := by rw [hW]; simp only [World.size_alloc]; omega
    have b1 : ∀ i, W.cell? ⟨w.heap.size, i, none⟩ = (#[D, .int .i64 x.off, .int .i64 x.rows, .int .i64 x.cols, .int .i64 x.ld] : Array Value)[i]? := by intro i; rw [hW]; go_simp
    have X1 : Box W (w.heap.size) #[D, .int .i64 x.off, .int .i64 x.rows, .int .i64 x.cols, .int .i64 x.ld] := by rw [hW]; refine Box.grew ?_ ((Grew.refl _).alloc _); exact Box.new' (by first | rfl | (simp only [World.size_alloc]; done) | (simp only [World.size_alloc]; omega))
    have f1 : ∀ i, W.frozen? ⟨w.heap.size, i, none⟩ = false := by intro i; rw [hW]; go_simp
    have s2 : w.heap.size + 1 < W.heap.size := by rw [hW]; simp only [World.size_alloc]; omega
    have b2 : ∀ i, W.cell? ⟨w.heap.size + 1, i, none⟩ = (#[.slice none 0 0, .int .i64 0, .int .i64 0, .int .i64 0, .int .i64 0] : Array Value)[i]? := by intro i; rw [hW]; go_simp
    have X2 : Box W (w.heap.size + 1) #[.slice none 0 0, .int .i64 0, .int .i64 0, .int .i64 0, .int .i64 0] := by rw [hW]; exact Box.new' (by first | rfl | (simp only [World.size_alloc]; done) | (simp only [World.size_alloc]; omega))
    have f2 : ∀ i, W.frozen? ⟨w.heap.size + 1, i, none⟩ = false := by intro i; rw [hW]; go_simp
    have g0 : Grew w W := by rw [hW]; exact ((Grew.refl _).alloc _).alloc _
    clear hW
    have hDW := hD.grew g0
    go_wp2_with (first | (go_at_call 130; ((with_reducible refine (hgd _ ?_).mono ?_); (focus (first | (with_reducible assumption) | (with_reducible refine FS.ext ?_ _ _; with_reducible assumption) | (with_reducible refine IS.ext ?_ _ _; with_reducible assumption) | (refine hDu _ ?_; with_reducible assumption) | (refine hOu _ ?_; with_reducible assumption) | (refine hDa _ ?_; with_reducible assumption) | (refine hDb _ ?_; with_reducible assumption) | (refine hDc _ ?_; with_reducible assumption) | (refine hDd _ ?_; with_reducible assumption) | (refine FW.fs ?_ (by omega) _; with_reducible assumption) | (refine WS.fs ?_; with_reducible assumption) | (refine FW.fs ?_ (by omega) _; assumption) | omega | assumption)); rintro e w1 ⟨rfl, o1, n1, rfl⟩)))
    refine bodyPost_ret (v := .tuple #[.agg #[.slice none 0 0, .int .i64 0, .int .i64 0, .int .i64 0, .int .i64 0], .int .i64 3]) (by simp [results, Try.results109, go_sem, *]) rfl ?_
    exact ⟨rfl, by (show Grew _ _; repeat (first | (with_reducible exact Grew.refl _) | (with_reducible assumption) | (with_reducible exact Grew.same_o) | (with_reducible exact Grew.app_o) | (with_reducible refine Grew.ext ?_ _ _) | (with_reducible refine Grew.alloc ?_ _) | ((with_reducible refine Grew.setCell ?_ ?_ _); rotate_left; (focus (dsimp only; first | omega | (simp only [size_ext, World.size_alloc, Array.size_append]; omega)))) | (with_reducible refine Grew.drewN ?_ _) | (with_reducible refine Grew.drew ?_)))⟩
  · have d1 : ((rs.length : Int) != x.rows) = true := by simpa using h1
    clear h1 hs
    go_enter Try.func109, Try.ntmps109
    refine seq_stop ?_
    go_wp2
    refine stop_go (fun W hW => ?_)
    have s1 : w.heap.size < W.heap.size := by rw [hW]; simp only [World.size_alloc]; omega
    have b1 : ∀ i, W.cell? ⟨w.heap.size, i, none⟩ = (#[D, .int .i64 x.off, .int .i64 x.rows, .int .i64 x.cols, .int .i64 x.ld] : Array Value)[i]? := by intro i; rw [hW]; go_simp
    have X1 : Box W (w.heap.size) #[D, .int .i64 x.off, .int .i64 x.rows, .int .i64 x.cols, .int .i64 x.ld] := by rw [hW]; refine Box.grew ?_ ((Grew.refl _).alloc _); exact Box.new' (by first | rfl | (simp only [World.size_alloc]; done) | (simp only [World.size_alloc]; omega))
    have f1 : ∀ i, W.frozen? ⟨w.heap.size, i, none⟩ = false := by intro i; rw [hW]; go_simp
    have s2 : w.heap.size + 1 < W.heap.size := by rw [hW]; simp only [World.size_alloc]; omega
    have b2 : ∀ i, W.cell? ⟨w.heap.size + 1, i, none⟩ = (#[.slice none 0 0, .int .i64 0, .int .i64 0, .int .i64 0, .int .i64 0] : Array Value)[i]? := by intro i; rw [hW]; go_simp
    have X2 : Box W (w.heap.size + 1) #[.slice none 0 0, .int .i64 0, .int .i64 0, .int .i64 0, .int .i64 0] := by rw [hW]; exact Box.new' (by first | rfl | (simp only [World.size_alloc]; done) | (simp only [World.size_alloc]; omega))
    have f2 : ∀ i, W.frozen? ⟨w.heap.size + 1, i, none⟩ = false := by intro i; rw [hW]; go_simp
    have g0 : Grew w W := by rw [hW]; exact ((Grew.refl _).alloc _).alloc _
    clear hW
    have hDW := hD.grew g0
    go_wp2_with (first | (go_at_call 130; ((with_reducible refine (hgd _ ?_).mono ?_); (focus (first | (with_reducible assumption) | (with_reducible refine FS.ext ?_ _ _; with_reducible assumption) | (with_reducible refine IS.ext ?_ _ _; with_reducible assumption) | (refine hDu _ ?_; with_reducible assumption) | (refine hOu _ ?_; with_reducible assumption) | (refine hDa _ ?_; with_reducible assumption) | (refine hDb _ ?_; with_reducible assumption) | (refine hDc _ ?_; with_reducible assumption) | (refine hDd _ ?_; with_reducible assumption) | (refine FW.fs ?_ (by omega) _; with_reducible assumption) | (refine WS.fs ?_; with_reducible assumption) | (refine FW.fs ?_ (by omega) _; assumption) | omega | assumption)); rintro e w1 ⟨rfl, o1, n1, rfl⟩)))
    refine bodyPost_ret (v := .tuple #[.agg #[.slice none 0 0, .int .i64 0, .int .i64 0, .int .i64 0, .int .i64 0], .int .i64 3]) (by simp [results, Try.results109, go_sem, *]) rfl ?_
    exact ⟨rfl, by (show Grew _ _; repeat (first | (with_reducible exact Grew.refl _) | (with_reducible assumption) | (with_reducible exact Grew.same_o) | (with_reducible exact Grew.app_o) | (with_reducible refine Grew.ext ?_ _ _) | (with_reducible refine Grew.alloc ?_ _) | ((with_reducible refine Grew.setCell ?_ ?_ _); rotate_left; (focus (dsimp only; first | omega | (simp only [size_ext, World.size_alloc, Array.size_append]; omega)))) | (with_reducible refine Grew.drewN ?_ _) | (with_reducible refine Grew.drew ?_)))⟩
set_option maxRecDepth 100000 in
set_option maxHeartbeats 2000000 in
/-- equil.Exact, where Scale does nothing. -/
theorem eexact_no (D VR VC : Value) (rs cs : List Int) (ws : List Nat) (a b c d E : Int) (w : World) (hD : FS w D ws) (hVR : IS .i64 w VR rs) (hVC : IS .i64 w VC cs) (hE : (E != 0) = true)
    (hsc : ∀ w', FS w' D ws → IS .i64 w' VR rs → IS .i64 w' VC cs → Calls Try.prog 109 #[.agg #[D, .int .i64 a, .int .i64 b, .int .i64 c, .int .i64 d], VR, VC] w' (fun e w2 => e = .returned (.tuple #[.agg #[.slice none 0 0, .int .i64 0, .int .i64 0, .int .i64 0, .int .i64 0], .int .i64 E]) ∧ ∃ o n, w2 = ext w' o n)) :
   Calls Try.prog 111 #[.agg #[D, .int .i64 a, .int .i64 b, .int .i64 c, .int .i64 d], VR, VC] w (fun e w' => e = .returned (.bool false) ∧ ∃ o n, w' = ext w o n) := by
  go_enter Try.func111, Try.ntmps111
  refine seq_stop ?_
  go_wp2
  refine stop_go (fun W hW => ?_)
  have s1 : w.heap.size < W.heap.size := by rw [hW]; simp only [World.size_alloc]; omega
  have b1 : ∀ i, W.cell? ⟨w.heap.size, i, none⟩ = (#[D, .int .i64 a, .int .i64 b, .int .i64 c, .int .i64 d] : Array Value)[i]? := by intro i; rw [hW]; go_simp
  have X1 : Box W (w.heap.size) #[D, .int .i64 a, .int .i64 b, .int .i64 c, .int .i64 d] := by rw [hW]; exact Box.new' (by first | rfl | (simp only [World.size_alloc]; done) | (simp only [World.size_alloc]; omega))
  have f1 : ∀ i, W.frozen? ⟨w.heap.size, i, none⟩ = false := by intro i; rw [hW]; go_simp
  have g0 : Grew w W := by rw [hW]; exact (Grew.refl _).alloc _
  clear hW
  have hDW := hD.grew g0
  have hXW := hVR.grew g0
  have hYW := hVC.grew g0
  go_wp2_with (first | (go_at_call 109; ((with_reducible refine (hsc _ (hDW.grew (by (show Grew _ _; (try simp only [← Array.append_assoc]); repeat (first | (with_reducible exact Grew.same_o) | (with_reducible exact Grew.refl _) | (with_reducible assumption) | (with_reducible refine Grew.alloc ?_ _) | (with_reducible refine Grew.app_r ?_) | ((with_reducible refine Grew.setCell ?_ ?_ _); rotate_left; (focus (dsimp only; first | omega | (simp only [size_ext, World.size_alloc, Array.size_append]; omega)))) | (with_reducible refine Grew.ext ?_ _ _) | (with_reducible refine Grew.drewN ?_ _) | (with_reducible refine Grew.drew ?_))))) (hXW.grew (by (show Grew _ _; (try simp only [← Array.append_assoc]); repeat (first | (with_reducible exact Grew.same_o) | (with_reducible exact Grew.refl _) | (with_reducible assumption) | (with_reducible refine Grew.alloc ?_ _) | (with_reducible refine Grew.app_r ?_) | ((with_reducible refine Grew.setCell ?_ ?_ _); rotate_left; (focus (dsimp only; first | omega | (simp only [size_ext, World.size_alloc, Array.size_append]; omega)))) | (with_reducible refine Grew.ext ?_ _ _) | (with_reducible refine Grew.drewN ?_ _) | (with_reducible refine Grew.drew ?_))))) (hYW.grew (by (show Grew _ _; (try simp only [← Array.append_assoc]); repeat (first | (with_reducible exact Grew.same_o) | (with_reducible exact Grew.refl _) | (with_reducible assumption) | (with_reducible refine Grew.alloc ?_ _) | (with_reducible refine Grew.app_r ?_) | ((with_reducible refine Grew.setCell ?_ ?_ _); rotate_left; (focus (dsimp only; first | omega | (simp only [size_ext, World.size_alloc, Array.size_append]; omega)))) | (with_reducible refine Grew.ext ?_ _ _) | (with_reducible refine Grew.drewN ?_ _) | (with_reducible refine Grew.drew ?_)))))).mono ?_); rintro e w1 ⟨rfl, o1, n1, rfl⟩)))
  go_ret
  exact ⟨rfl, by (show Grew _ _; repeat (first | (with_reducible exact Grew.refl _) | (with_reducible assumption) | (with_reducible exact Grew.same_o) | (with_reducible exact Grew.app_o) | (with_reducible refine Grew.ext ?_ _ _) | (with_reducible refine Grew.alloc ?_ _) | ((with_reducible refine Grew.setCell ?_ ?_ _); rotate_left; (focus (dsimp only; first | omega | (simp only [size_ext, World.size_alloc, Array.size_append]; omega)))) | (with_reducible refine Grew.drewN ?_ _) | (with_reducible refine Grew.drew ?_)))⟩
set_option maxRecDepth 100000 in
set_option maxHeartbeats 4000000 in
/-- equil.Exact, of a matrix with lists as long as they should be. -/
theorem eexact_ok (x : MatM) (D VR VC : Value) (rs cs : List Int) (R C : Nat) (w : World) (hD : FS w D x.ws) (hx : x.good = true) (hwf : x.wf) (hl : x.ws.length ≤ 1000000) (hR : x.rows = R) (hC : x.cols = C) (hr : R ≤ 64) (hc : C ≤ 64)
    (hVR : IS .i64 w VR rs) (hVC : IS .i64 w VC cs) (lr : rs.length = R) (lc : cs.length = C) :
   Calls Try.prog 111 #[.agg #[D, .int .i64 x.off, .int .i64 R, .int .i64 C, .int .i64 x.ld], VR, VC] w (fun e w' => ∃ L, L.length = R * C ∧ (∀ i j, i < R → j < C → L.getD (i + j * R) 0 = shF rs cs i j (x.num i j)) ∧ e = .returned (.bool (finL (numL ⟨L, 0, R, C, (max R 1 : Nat)⟩) && finL (numL x) && exAll R C fun i j => exP (x.num i j) (shF rs cs i j (x.num i j)))) ∧ ∃ o n, w' = ext w o n) := by
  have hm : R * C ≤ 64 * 64 := Nat.mul_le_mul hr hc
  have hsc := fun w' h1 h2 h3 => scale_ok x D VR VC rs cs R C w' h1 hx hwf hl hR hC hr hc h2 h3 lr lc
  have hmx : ∀ w', FS w' D x.ws → Calls Try.prog 174 #[.agg #[D, .int .i64 x.off, .int .i64 R, .int .i64 C, .int .i64 x.ld]] w' (fun e w2 => e = .returned (.bool (finL (numL x))) ∧ ∃ o n, w2 = ext w' o n) := fun w' h => by
    have := mfin_any x D w' h hwf hl (by omega) (by omega); rw [hx, Bool.true_and, hR, hC] at this; exact this
  have hatx : ∀ (i j : Nat) w', i < R → j < C → FS w' D x.ws → Calls Try.prog 186 #[.agg #[D, .int .i64 x.off, .int .i64 R, .int .i64 C, .int .i64 x.ld], .int .i64 i, .int .i64 j] w' (fun e w2 => ∃ b, e = .returned (.float .f64 b) ∧ IsF b (x.num i j) ∧ ∃ o n, w2 = ext w' o n) := fun i j w' hi hj h => by
    have := vat_any x D i j w' h hx hwf (by omega) (by omega) hl; rw [hR, hC] at this; exact this
  obtain ⟨M, hM⟩ : ∃ M : Nat → Nat → Nat, M = fun i j => x.num i j := ⟨_, rfl⟩
  have eM : ∀ i j, x.num i j = M i j := fun i j => by rw [hM]
  simp only [eM] at hatx hsc ⊢
  obtain ⟨FX, hFX⟩ : ∃ b, b = finL (numL x) := ⟨_, rfl⟩
  rw [← hFX] at hmx ⊢
  obtain ⟨LD, hLD⟩ : ∃ LD, LD = max R 1 := ⟨_, rfl⟩
  have hld : LD ≤ 64 := by omega
  simp only [← hLD] at hsc ⊢
  have HLD := hid hLD
  obtain ⟨aR, cR, rfl⟩ := hVR.shape
  obtain ⟨aC, cC, rfl⟩ := hVC.shape
  clear hx hwf hR hC lr lc hM eM hFX hLD
  go_enter Try.func111, Try.ntmps111
  refine seq_stop ?_
  go_wp2
  refine stop_go (fun W hW => ?_)
  have s1 : w.heap.size < W.heap.size := by rw [hW]; simp only [World.size_alloc]; omega
  have b1 : ∀ i, W.cell? ⟨w.heap.size, i, none⟩ = (#[D, .int .i64 x.off, .int .i64 R, .int .i64 C, .int .i64 x.ld] : Array Value)[i]? := by intro i; rw [hW]; go_simp
  have X1 : Box W (w.heap.size) #[D, .int .i64 x.off, .int .i64 R, .int .i64 C, .int .i64 x.ld] := by rw [hW]; exact Box.new' (by first | rfl | (simp only [World.size_alloc]; done) | (simp only [World.size_alloc]; omega))
  have f1 : ∀ i, W.frozen? ⟨w.heap.size, i, none⟩ = false := by intro i; rw [hW]; go_simp
  have g0 : Grew w W := by rw [hW]; exact (Grew.refl _).alloc _
  clear hW
  obtain ⟨p3, hp3⟩ : ∃ p, p = w.heap.size := ⟨_, rfl⟩
  have Y3 : Box W p3 #[D, .int .i64 x.off, .int .i64 R, .int .i64 C, .int .i64 x.ld] := by rw [hp3]; exact X1
  have hDW := hD.grew g0
  have hXW := hVR.grew g0
  have hYW := hVC.grew g0
  have t3 := Y3.cell
  have l3 := Y3.lt
  simp only [← hp3]
  clear X1 b1 s1 f1 hp3
  go_upto_region 2 with (first | (go_at_call 109; ((with_reducible refine (hsc _ (hDW.grew (by (show Grew _ _; (try simp only [← Array.append_assoc]); repeat (first | (with_reducible exact Grew.same_o) | (with_reducible exact Grew.refl _) | (with_reducible assumption) | (with_reducible refine Grew.alloc ?_ _) | (with_reducible refine Grew.app_r ?_) | ((with_reducible refine Grew.setCell ?_ ?_ _); rotate_left; (focus (dsimp only; first | omega | (simp only [size_ext, World.size_alloc, Array.size_append]; omega)))) | (with_reducible refine Grew.ext ?_ _ _) | (with_reducible refine Grew.drewN ?_ _) | (with_reducible refine Grew.drew ?_))))) (hXW.grew (by (show Grew _ _; (try simp only [← Array.append_assoc]); repeat (first | (with_reducible exact Grew.same_o) | (with_reducible exact Grew.refl _) | (with_reducible assumption) | (with_reducible refine Grew.alloc ?_ _) | (with_reducible refine Grew.app_r ?_) | ((with_reducible refine Grew.setCell ?_ ?_ _); rotate_left; (focus (dsimp only; first | omega | (simp only [size_ext, World.size_alloc, Array.size_append]; omega)))) | (with_reducible refine Grew.ext ?_ _ _) | (with_reducible refine Grew.drewN ?_ _) | (with_reducible refine Grew.drew ?_))))) (hYW.grew (by (show Grew _ _; (try simp only [← Array.append_assoc]); repeat (first | (with_reducible exact Grew.same_o) | (with_reducible exact Grew.refl _) | (with_reducible assumption) | (with_reducible refine Grew.alloc ?_ _) | (with_reducible refine Grew.app_r ?_) | ((with_reducible refine Grew.setCell ?_ ?_ _); rotate_left; (focus (dsimp only; first | omega | (simp only [size_ext, World.size_alloc, Array.size_append]; omega)))) | (with_reducible refine Grew.ext ?_ _ _) | (with_reducible refine Grew.drewN ?_ _) | (with_reducible refine Grew.drew ?_)))))).mono ?_); rintro e w1 ⟨k, L, rfl, hk, hF, lL, hnum, o1, n1, rfl⟩; (replace hnum := hid hnum))))
  refine name_any (fun V hV => ?_)
  obtain ⟨p7, hp7⟩ : ∃ p, p = W.heap.size + o1.size := ⟨_, rfl⟩
  have gV : Grew W V := by rw [← hV]; (show Grew _ _; (try simp only [← Array.append_assoc]); repeat (first | (with_reducible exact Grew.same_o) | (with_reducible exact Grew.refl _) | (with_reducible assumption) | (with_reducible refine Grew.alloc ?_ _) | (with_reducible refine Grew.app_r ?_) | ((with_reducible refine Grew.setCell ?_ ?_ _); rotate_left; (focus (dsimp only; first | omega | (simp only [size_ext, World.size_alloc, Array.size_append]; omega)))) | (with_reducible refine Grew.ext ?_ _ _) | (with_reducible refine Grew.drewN ?_ _) | (with_reducible refine Grew.drew ?_)))
  have gw := Grew.trans g0 gV
  have Z3 := Y3.grew gV
  have Z7 : Box V p7 #[.slice (some ⟨k, 0, none⟩) (R * C) (R * C), .int .i64 0, .int .i64 R, .int .i64 C, .int .i64 LD] := by rw [← hV]; exact Box.new' (by rw [hp7]; simp only [size_ext])
  have hFV : FW V k L := by rw [← hV]; exact hF.grew (by (show Grew _ _; (try simp only [← Array.append_assoc]); repeat (first | (with_reducible exact Grew.same_o) | (with_reducible exact Grew.refl _) | (with_reducible assumption) | (with_reducible refine Grew.alloc ?_ _) | (with_reducible refine Grew.app_r ?_) | ((with_reducible refine Grew.setCell ?_ ?_ _); rotate_left; (focus (dsimp only; first | omega | (simp only [size_ext, World.size_alloc, Array.size_append]; omega)))) | (with_reducible refine Grew.ext ?_ _ _) | (with_reducible refine Grew.drewN ?_ _) | (with_reducible refine Grew.drew ?_))))
  have hDV := hDW.grew gV
  have hgy : MatM.good ⟨L, 0, R, C, LD⟩ = true := by rw [HLD.out]; exact matd_goodA lL
  have hwy : MatM.wf ⟨L, 0, R, C, LD⟩ := by simp [MatM.wf, I64]; omega
  have hfs : ∀ w', Grew V w' → FS w' (.slice (some ⟨k, 0, none⟩) (R * C) (R * C)) L := fun w' g => by have := (hFV.grew g).fs (by omega) (R * C); rw [lL] at this; exact this
  have hnumY : ∀ i j, i < R → j < C → MatM.num ⟨L, 0, R, C, LD⟩ i j = shF rs cs i j (M i j) := fun i j hi hj => by
    unfold MatM.num
    rw [HLD.out, show max R 1 = R by omega, matd_place]
    exact hnum.out i j hi hj
  have hmy : ∀ w', Grew V w' → Calls Try.prog 174 #[.agg #[.slice (some ⟨k, 0, none⟩) (R * C) (R * C), .int .i64 0, .int .i64 R, .int .i64 C, .int .i64 LD]] w' (fun e w2 => e = .returned (.bool (finL (numL ⟨L, 0, R, C, LD⟩))) ∧ ∃ o n, w2 = ext w' o n) := fun w' g => by
    have := mfin_any ⟨L, 0, R, C, LD⟩ _ w' (hfs w' g) hwy (by show L.length ≤ _; omega) (by show (R : Int) ≤ 1000; omega) (by show (C : Int) ≤ 1000; omega)
    rw [hgy, Bool.true_and] at this; exact this
  have haty : ∀ (i j : Nat) w', i < R → j < C → Grew V w' → Calls Try.prog 186 #[.agg #[.slice (some ⟨k, 0, none⟩) (R * C) (R * C), .int .i64 0, .int .i64 R, .int .i64 C, .int .i64 LD], .int .i64 i, .int .i64 j] w' (fun e w2 => ∃ b, e = .returned (.float .f64 b) ∧ IsF b (shF rs cs i j (M i j)) ∧ ∃ o n, w2 = ext w' o n) := fun i j w' hi hj g => by
    have := vat_any ⟨L, 0, R, C, LD⟩ _ i j w' (hfs w' g) hgy hwy (by show (i : Int) < R; omega) (by show (j : Int) < C; omega) (by show L.length ≤ _; omega)
    rw [hnumY i j hi hj] at this; exact this
  have hatx2 : ∀ (i j : Nat) w', i < R → j < C → Grew V w' → Calls Try.prog 186 #[.agg #[D, .int .i64 x.off, .int .i64 R, .int .i64 C, .int .i64 x.ld], .int .i64 i, .int .i64 j] w' (fun e w2 => ∃ b, e = .returned (.float .f64 b) ∧ IsF b (M i j) ∧ ∃ o n, w2 = ext w' o n) := fun i j w' hi hj g => hatx i j w' hi hj (hDV.grew g)
  have HAX := hid hatx2
  have HAY := hid haty
  obtain ⟨FY, hFY⟩ : ∃ b, b = finL (numL ⟨L, 0, R, C, LD⟩) := ⟨_, rfl⟩
  rw [← hFY] at hmy
  have hpost : ∀ b w', b = (FY && FX && exAll R C fun i j => exP (M i j) (shF rs cs i j (M i j))) → Grew w w' → ∃ L : List Nat, L.length = R * C ∧ (∀ i j, i < R → j < C → L.getD (i + j * R) 0 = shF rs cs i j (M i j)) ∧ (Ending.returned (.bool b)) = .returned (.bool (finL (numL ⟨L, 0, R, C, LD⟩) && FX && exAll R C fun i j => exP (M i j) (shF rs cs i j (M i j)))) ∧ ∃ o n, w' = ext w o n := fun b w' h1 h2 => ⟨L, lL, hnum.out, by rw [h1, hFY], h2⟩
  have HP := hid hpost
  have hmx2 : ∀ w', Grew V w' → Calls Try.prog 174 #[.agg #[D, .int .i64 x.off, .int .i64 R, .int .i64 C, .int .i64 x.ld]] w' (fun e w2 => e = .returned (.bool FX) ∧ ∃ o n, w2 = ext w' o n) := fun w' g => hmx w' (hDV.grew g)
  have t3 := Z3.cell
  have l3 := Z3.lt
  have t7 := Z7.cell
  have l7 := Z7.lt
  simp only [← hp7]
  clear hV hp7 hF hFY hpost hatx2 haty hatx hmx hnumY hgy hwy hfs hsc lL hk
  cases FY
  · go_wp2_with (first | (go_at_call 174; ((with_reducible refine (hmy _ (by (show Grew _ _; (try simp only [← Array.append_assoc]); repeat (first | (with_reducible exact Grew.same_o) | (with_reducible exact Grew.refl _) | (with_reducible assumption) | (with_reducible refine Grew.alloc ?_ _) | (with_reducible refine Grew.app_r ?_) | ((with_reducible refine Grew.setCell ?_ ?_ _); rotate_left; (focus (dsimp only; first | omega | (simp only [size_ext, World.size_alloc, Array.size_append]; omega)))) | (with_reducible refine Grew.ext ?_ _ _) | (with_reducible refine Grew.drewN ?_ _) | (with_reducible refine Grew.drew ?_))))).mono ?_); rintro e w1 ⟨rfl, o2, n2, rfl⟩)) | (go_at_call 174; ((with_reducible refine (hmx2 _ (by (show Grew _ _; (try simp only [← Array.append_assoc]); repeat (first | (with_reducible exact Grew.same_o) | (with_reducible exact Grew.refl _) | (with_reducible assumption) | (with_reducible refine Grew.alloc ?_ _) | (with_reducible refine Grew.app_r ?_) | ((with_reducible refine Grew.setCell ?_ ?_ _); rotate_left; (focus (dsimp only; first | omega | (simp only [size_ext, World.size_alloc, Array.size_append]; omega)))) | (with_reducible refine Grew.ext ?_ _ _) | (with_reducible refine Grew.drewN ?_ _) | (with_reducible refine Grew.drew ?_))))).mono ?_); rintro e w1 ⟨rfl, o3, n3, rfl⟩)))
    go_ret
    exact HP.out _ _ rfl (Grew.trans gw (by (show Grew _ _; (try simp only [← Array.append_assoc]); repeat (first | (with_reducible exact Grew.same_o) | (with_reducible exact Grew.refl _) | (with_reducible assumption) | (with_reducible refine Grew.alloc ?_ _) | (with_reducible refine Grew.app_r ?_) | ((with_reducible refine Grew.setCell ?_ ?_ _); rotate_left; (focus (dsimp only; first | omega | (simp only [size_ext, World.size_alloc, Array.size_append]; omega)))) | (with_reducible refine Grew.ext ?_ _ _) | (with_reducible refine Grew.drewN ?_ _) | (with_reducible refine Grew.drew ?_)))))
  · cases FX
    · go_wp2_with (first | (go_at_call 174; ((with_reducible refine (hmy _ (by (show Grew _ _; (try simp only [← Array.append_assoc]); repeat (first | (with_reducible exact Grew.same_o) | (with_reducible exact Grew.refl _) | (with_reducible assumption) | (with_reducible refine Grew.alloc ?_ _) | (with_reducible refine Grew.app_r ?_) | ((with_reducible refine Grew.setCell ?_ ?_ _); rotate_left; (focus (dsimp only; first | omega | (simp only [size_ext, World.size_alloc, Array.size_append]; omega)))) | (with_reducible refine Grew.ext ?_ _ _) | (with_reducible refine Grew.drewN ?_ _) | (with_reducible refine Grew.drew ?_))))).mono ?_); rintro e w1 ⟨rfl, o2, n2, rfl⟩)) | (go_at_call 174; ((with_reducible refine (hmx2 _ (by (show Grew _ _; (try simp only [← Array.append_assoc]); repeat (first | (with_reducible exact Grew.same_o) | (with_reducible exact Grew.refl _) | (with_reducible assumption) | (with_reducible refine Grew.alloc ?_ _) | (with_reducible refine Grew.app_r ?_) | ((with_reducible refine Grew.setCell ?_ ?_ _); rotate_left; (focus (dsimp only; first | omega | (simp only [size_ext, World.size_alloc, Array.size_append]; omega)))) | (with_reducible refine Grew.ext ?_ _ _) | (with_reducible refine Grew.drewN ?_ _) | (with_reducible refine Grew.drew ?_))))).mono ?_); rintro e w1 ⟨rfl, o3, n3, rfl⟩)))
      go_ret
      exact HP.out _ _ rfl (Grew.trans gw (by (show Grew _ _; (try simp only [← Array.append_assoc]); repeat (first | (with_reducible exact Grew.same_o) | (with_reducible exact Grew.refl _) | (with_reducible assumption) | (with_reducible refine Grew.alloc ?_ _) | (with_reducible refine Grew.app_r ?_) | ((with_reducible refine Grew.setCell ?_ ?_ _); rotate_left; (focus (dsimp only; first | omega | (simp only [size_ext, World.size_alloc, Array.size_append]; omega)))) | (with_reducible refine Grew.ext ?_ _ _) | (with_reducible refine Grew.drewN ?_ _) | (with_reducible refine Grew.drew ?_)))))
    · go_upto_region 4 with (first | (go_at_call 174; ((with_reducible refine (hmy _ (by (show Grew _ _; (try simp only [← Array.append_assoc]); repeat (first | (with_reducible exact Grew.same_o) | (with_reducible exact Grew.refl _) | (with_reducible assumption) | (with_reducible refine Grew.alloc ?_ _) | (with_reducible refine Grew.app_r ?_) | ((with_reducible refine Grew.setCell ?_ ?_ _); rotate_left; (focus (dsimp only; first | omega | (simp only [size_ext, World.size_alloc, Array.size_append]; omega)))) | (with_reducible refine Grew.ext ?_ _ _) | (with_reducible refine Grew.drewN ?_ _) | (with_reducible refine Grew.drew ?_))))).mono ?_); rintro e w1 ⟨rfl, o2, n2, rfl⟩)) | (go_at_call 174; ((with_reducible refine (hmx2 _ (by (show Grew _ _; (try simp only [← Array.append_assoc]); repeat (first | (with_reducible exact Grew.same_o) | (with_reducible exact Grew.refl _) | (with_reducible assumption) | (with_reducible refine Grew.alloc ?_ _) | (with_reducible refine Grew.app_r ?_) | ((with_reducible refine Grew.setCell ?_ ?_ _); rotate_left; (focus (dsimp only; first | omega | (simp only [size_ext, World.size_alloc, Array.size_append]; omega)))) | (with_reducible refine Grew.ext ?_ _ _) | (with_reducible refine Grew.drewN ?_ _) | (with_reducible refine Grew.drew ?_))))).mono ?_); rintro e w1 ⟨rfl, o3, n3, rfl⟩)))
      refine name_any (fun U hU => ?_)
      have gU : Grew V U := by rw [← hU]; (show Grew _ _; (try simp only [← Array.append_assoc]); repeat (first | (with_reducible exact Grew.same_o) | (with_reducible exact Grew.refl _) | (with_reducible assumption) | (with_reducible refine Grew.alloc ?_ _) | (with_reducible refine Grew.app_r ?_) | ((with_reducible refine Grew.setCell ?_ ?_ _); rotate_left; (focus (dsimp only; first | omega | (simp only [size_ext, World.size_alloc, Array.size_append]; omega)))) | (with_reducible refine Grew.ext ?_ _ _) | (with_reducible refine Grew.drewN ?_ _) | (with_reducible refine Grew.drew ?_)))
      have t3 := (Z3.grew gU).cell
      have l3 := (Z3.grew gU).lt
      clear hU hmy hmx2
      go_wp2
      go_loopw [6, 34] (fun s c wr => ∃ (i : Nat), i ≤ R ∧ s = .bool false ∧ c = .int .i64 i ∧ Grew V wr ∧ Hid (∀ a b, a < i → b < C → exP (M a b) (shF rs cs a b (M a b)) = true)) (fun _ c _ => R - (intOf c).toNat)
      case atStart => exact ⟨0, Nat.zero_le _, rfl, rfl, gU, hid fun a b h => absurd h (Nat.not_lt_zero _)⟩
      case round =>
        obtain ⟨i, hi, rfl, rfl, gr, hT1⟩ := hrel
        have t3 := (Z3.grew gr).cell
        have l3 := (Z3.grew gr).lt
        by_cases hiR : i < R
        · go_wp2
          go_loopw [6, 39] (fun s c wr => ∃ (j : Nat), j ≤ C ∧ s = .bool false ∧ c = .int .i64 j ∧ Grew V wr ∧ Hid (∀ b, b < j → exP (M i b) (shF rs cs i b (M i b)) = true)) (fun _ c _ => C - (intOf c).toNat)
          case atStart => exact ⟨0, Nat.zero_le _, rfl, rfl, gr, hid fun b h => absurd h (Nat.not_lt_zero _)⟩
          case round =>
            obtain ⟨j, hj, rfl, rfl, gx, hT2⟩ := hrel
            have t3 := (Z3.grew gx).cell
            have l3 := (Z3.grew gx).lt
            have t7 := (Z7.grew gx).cell
            have l7 := (Z7.grew gx).lt
            by_cases hjC : j < C
            · have hx1 := fun w' g => HAX.out i j w' hiR hjC (Grew.trans gx g)
              have hy1 := fun w' g => HAY.out i j w' hiR hjC (Grew.trans gx g)
              obtain ⟨F, hF⟩ : ∃ F, F = shF rs cs i j (M i j) := ⟨_, rfl⟩
              obtain ⟨G, hG⟩ : ∃ G, G = M i j := ⟨_, rfl⟩
              have hPX : exP G F = exP (M i j) (shF rs cs i j (M i j)) := by rw [hF, hG]
              rw [← hF] at hy1
              rw [← hG] at hx1
              have HPX := hid hPX
              clear hF hG hPX
              have hG0 : ∀ b, IsF b G → (FloatKind.f64.format.order b 0 == some Ordering.eq) = feq0 G := fun b h => by unfold feq0; rw [← h.order isF_zero]; rfl
              have hG1 : ∀ b, IsF b G → (FloatKind.f64.format.order b 0 != some Ordering.eq) = !(feq0 G) := fun b h => by rw [← hG0 b h]; rfl
              have hF0 : ∀ b, IsF b F → (FloatKind.f64.format.order b 0 == some Ordering.eq) = feq0 F := fun b h => by unfold feq0; rw [← h.order isF_zero]; rfl
              have hex1 : ∀ b w', IsF b G → Calls Try.prog 178 #[.float .f64 b] w' (fun e w2 => e = .returned (.int .i64 (fexp G)) ∧ ∃ o n, w2 = ext w' o n) := fun b w' h => nexp_any b G w' h
              have hex2 : ∀ b w', IsF b F → Calls Try.prog 178 #[.float .f64 b] w' (fun e w2 => e = .returned (.int .i64 (fexp F)) ∧ ∃ o n, w2 = ext w' o n) := fun b w' h => nexp_any b F w' h
              have rg1 := fexp_range' G
              have rg2 := fexp_range' F
              have hsc2 : ∀ b w', IsF b F → Calls Try.prog 162 #[.float .f64 b, .int .i64 (fexp G - fexp F)] w' (fun e w2 => ∃ r, e = .returned (.float .f64 r) ∧ IsF r (fscale F (fexp G - fexp F)) ∧ ∃ o n, w2 = ext w' o n) := fun b w' h => nscale_any b F _ w' h
              have hR0 : ∀ r b, IsF r (fscale F (fexp G - fexp F)) → IsF b G → (FloatKind.f64.format.order r b == some Ordering.eq) = feq (fscale F (fexp G - fexp F)) G := fun r b h1 h2 => by unfold feq; rw [← h1.order h2]; rfl
              have hR1 : ∀ r b, IsF r (fscale F (fexp G - fexp F)) → IsF b G → (FloatKind.f64.format.order r b != some Ordering.eq) = !(feq (fscale F (fexp G - fexp F)) G) := fun r b h1 h2 => by rw [← hR0 r b h1 h2]; rfl
              have hxp : exP G F = (feq0 G || (!(feq0 F) && feq (fscale F (fexp G - fexp F)) G)) := rfl
              obtain ⟨SR, hSR⟩ : ∃ r, r = fscale F (fexp G - fexp F) := ⟨_, rfl⟩
              obtain ⟨z3, hz3⟩ : ∃ b, b = feq (fscale F (fexp G - fexp F)) G := ⟨_, rfl⟩
              obtain ⟨z1, hz1⟩ : ∃ b, b = feq0 G := ⟨_, rfl⟩
              obtain ⟨z2, hz2⟩ : ∃ b, b = feq0 F := ⟨_, rfl⟩
              rw [← hz3, ← hz1, ← hz2] at hxp
              rw [← hz3] at hR1 hR0
              rw [← hSR] at hR1 hR0 hsc2
              simp only [← hz1] at hG0 hG1
              simp only [← hz2] at hF0
              obtain ⟨EG, hEG⟩ : ∃ e, e = fexp G := ⟨_, rfl⟩
              obtain ⟨EF, hEF⟩ : ∃ e, e = fexp F := ⟨_, rfl⟩
              rw [← hEG] at hex1 hsc2 rg1
              rw [← hEF] at hex2 hsc2 rg2
              have rw1 : IntKind.i64.wrap (EG - EF) = EG - EF := IntWalk.i64_in _ (by omega)
              have HXP := hid hxp
              clear hxp hSR hz3 hz1 hz2 hEG hEF
              cases z1
              · cases z2
                · cases z3
                  · go_wp2
                    refine wp_region_R (Grew wr) [] [(0,0), (0,1), (0,2), (0,4), (0,5), (0,6), (1,3), (1,7), (0,8), (0,9)] (by kernel_rfl) (by kernel_rfl) (fun _ _ _ _ h _ => h) (by first | exact ⟨_, _, ext_drew⟩ | exact ⟨_, _, drew_ext0⟩ | (show Grew _ _; repeat (first | (with_reducible exact Grew.refl _) | (with_reducible assumption) | (with_reducible exact Grew.same_o) | (with_reducible exact Grew.app_o) | (with_reducible refine Grew.ext ?_ _ _) | (with_reducible refine Grew.alloc ?_ _) | ((with_reducible refine Grew.setCell ?_ ?_ _); rotate_left; (focus (dsimp only; first | omega | (simp only [size_ext, World.size_alloc, Array.size_append]; omega)))) | (with_reducible refine Grew.drewN ?_ _) | (with_reducible refine Grew.drew ?_)))) ?_
                    go_wp2_with (first | ((with_reducible refine wpR_id ?_); first | (refine wpR_take (v := ?_) rfl rfl ?_ ?_; rotate_left; (focus (rintro w' ⟨o', n', rfl⟩; go_simp; try with_reducible rfl)); simp only [Act.put, List.setIfInBounds_toArray, List.set_cons_zero, List.set_cons_succ]) | (refine wpR_pure (v := ?_) rfl rfl ?_ ?_; rotate_left; (focus (intro w'; go_simp; try with_reducible rfl)); simp only [Act.put, List.setIfInBounds_toArray, List.set_cons_zero, List.set_cons_succ]) | (refine wpR_takeG (v := ?_) rfl rfl rfl rfl rfl ?_ ?_; rotate_left; (focus (rintro w' ⟨o', n', rfl⟩; go_simp; try with_reducible rfl)); simp only [Act.put, List.setIfInBounds_toArray, List.set_cons_zero, List.set_cons_succ]) | (refine wpR_skip rfl rfl rfl rfl rfl rfl ?_; simp only [Act.put, List.setIfInBounds_toArray, List.set_cons_zero, List.set_cons_succ]) | (refine wpR_skipU rfl rfl rfl rfl rfl ?_; simp only [Act.put, List.setIfInBounds_toArray, List.set_cons_zero, List.set_cons_succ]) | (refine wpR_do rfl rfl (fun K hK => ?_)) | (refine wpR_doG rfl rfl rfl rfl rfl (fun K hK => ?_)) | (refine wpR_last rfl rfl (fun K hK => ?_)) | (refine wpR_nil ?_)) | ((with_reducible refine wpR_go ?_ ?_); (focus (show Grew _ _; repeat (first | (with_reducible exact Grew.refl _) | (with_reducible assumption) | (with_reducible exact Grew.same_o) | (with_reducible exact Grew.app_o) | (with_reducible refine Grew.ext ?_ _ _) | (with_reducible refine Grew.alloc ?_ _) | ((with_reducible refine Grew.setCell ?_ ?_ _); rotate_left; (focus (dsimp only; first | omega | (simp only [size_ext, World.size_alloc, Array.size_append]; omega)))) | (with_reducible refine Grew.drewN ?_ _) | (with_reducible refine Grew.drew ?_))))) | ((with_reducible refine upon_id ?_); refine upon_fop rfl (by assumption) (by assumption) ?_; intro rr nn hr) | (go_at_call 186; ((with_reducible refine (hx1 _ (by (show Grew _ _; (try simp only [← Array.append_assoc]); repeat (first | (with_reducible exact Grew.same_o) | (with_reducible exact Grew.refl _) | (with_reducible assumption) | (with_reducible refine Grew.alloc ?_ _) | (with_reducible refine Grew.app_r ?_) | ((with_reducible refine Grew.setCell ?_ ?_ _); rotate_left; (focus (dsimp only; first | omega | (simp only [size_ext, World.size_alloc, Array.size_append]; omega)))) | (with_reducible refine Grew.ext ?_ _ _) | (with_reducible refine Grew.drewN ?_ _) | (with_reducible refine Grew.drew ?_))))).mono ?_); rintro e w1 ⟨b1, rfl, hb1, o4, n4, rfl⟩; (have za := hG0 _ hb1; have zb := hG1 _ hb1))) | (go_at_call 186; ((with_reducible refine (hy1 _ (by (show Grew _ _; (try simp only [← Array.append_assoc]); repeat (first | (with_reducible exact Grew.same_o) | (with_reducible exact Grew.refl _) | (with_reducible assumption) | (with_reducible refine Grew.alloc ?_ _) | (with_reducible refine Grew.app_r ?_) | ((with_reducible refine Grew.setCell ?_ ?_ _); rotate_left; (focus (dsimp only; first | omega | (simp only [size_ext, World.size_alloc, Array.size_append]; omega)))) | (with_reducible refine Grew.ext ?_ _ _) | (with_reducible refine Grew.drewN ?_ _) | (with_reducible refine Grew.drew ?_))))).mono ?_); rintro e w1 ⟨b2, rfl, hb2, o5, n5, rfl⟩; (have ya := hF0 _ hb2))) | (go_at_call 178; ((with_reducible refine (hex1 _ _ hb1).mono ?_); rintro e w1 ⟨rfl, o6, n6, rfl⟩)) | (go_at_call 178; ((with_reducible refine (hex2 _ _ hb2).mono ?_); rintro e w1 ⟨rfl, o7, n7, rfl⟩)) | (go_at_call 162; ((with_reducible refine (hsc2 _ _ hb2).mono ?_); rintro e w1 ⟨r, rfl, hr8, o8, n8, rfl⟩; (have xa := hR0 _ _ hr8 hb1; have xb := hR1 _ _ hr8 hb1))))
                    go_ret
                    exact HP.out _ _ (by rw [Bool.true_and, Bool.true_and]; exact (exAll_no hiR hjC (by rw [← HPX.out, HXP.out]; rfl)).symm) (Grew.trans gw (Grew.trans gx (by (show Grew _ _; (try simp only [← Array.append_assoc]); repeat (first | (with_reducible exact Grew.same_o) | (with_reducible exact Grew.refl _) | (with_reducible assumption) | (with_reducible refine Grew.alloc ?_ _) | (with_reducible refine Grew.app_r ?_) | ((with_reducible refine Grew.setCell ?_ ?_ _); rotate_left; (focus (dsimp only; first | omega | (simp only [size_ext, World.size_alloc, Array.size_append]; omega)))) | (with_reducible refine Grew.ext ?_ _ _) | (with_reducible refine Grew.drewN ?_ _) | (with_reducible refine Grew.drew ?_))))))
                  · go_wp2
                    refine wp_region_R (Grew wr) [] [(0,0), (0,1), (0,2), (0,4), (0,5), (0,6), (1,3), (1,7), (0,8), (0,9)] (by kernel_rfl) (by kernel_rfl) (fun _ _ _ _ h _ => h) (by first | exact ⟨_, _, ext_drew⟩ | exact ⟨_, _, drew_ext0⟩ | (show Grew _ _; repeat (first | (with_reducible exact Grew.refl _) | (with_reducible assumption) | (with_reducible exact Grew.same_o) | (with_reducible exact Grew.app_o) | (with_reducible refine Grew.ext ?_ _ _) | (with_reducible refine Grew.alloc ?_ _) | ((with_reducible refine Grew.setCell ?_ ?_ _); rotate_left; (focus (dsimp only; first | omega | (simp only [size_ext, World.size_alloc, Array.size_append]; omega)))) | (with_reducible refine Grew.drewN ?_ _) | (with_reducible refine Grew.drew ?_)))) ?_
                    go_wp2_with (first | ((with_reducible refine wpR_id ?_); first | (refine wpR_take (v := ?_) rfl rfl ?_ ?_; rotate_left; (focus (rintro w' ⟨o', n', rfl⟩; go_simp; try with_reducible rfl)); simp only [Act.put, List.setIfInBounds_toArray, List.set_cons_zero, List.set_cons_succ]) | (refine wpR_pure (v := ?_) rfl rfl ?_ ?_; rotate_left; (focus (intro w'; go_simp; try with_reducible rfl)); simp only [Act.put, List.setIfInBounds_toArray, List.set_cons_zero, List.set_cons_succ]) | (refine wpR_takeG (v := ?_) rfl rfl rfl rfl rfl ?_ ?_; rotate_left; (focus (rintro w' ⟨o', n', rfl⟩; go_simp; try with_reducible rfl)); simp only [Act.put, List.setIfInBounds_toArray, List.set_cons_zero, List.set_cons_succ]) | (refine wpR_skip rfl rfl rfl rfl rfl rfl ?_; simp only [Act.put, List.setIfInBounds_toArray, List.set_cons_zero, List.set_cons_succ]) | (refine wpR_skipU rfl rfl rfl rfl rfl ?_; simp only [Act.put, List.setIfInBounds_toArray, List.set_cons_zero, List.set_cons_succ]) | (refine wpR_do rfl rfl (fun K hK => ?_)) | (refine wpR_doG rfl rfl rfl rfl rfl (fun K hK => ?_)) | (refine wpR_last rfl rfl (fun K hK => ?_)) | (refine wpR_nil ?_)) | ((with_reducible refine wpR_go ?_ ?_); (focus (show Grew _ _; repeat (first | (with_reducible exact Grew.refl _) | (with_reducible assumption) | (with_reducible exact Grew.same_o) | (with_reducible exact Grew.app_o) | (with_reducible refine Grew.ext ?_ _ _) | (with_reducible refine Grew.alloc ?_ _) | ((with_reducible refine Grew.setCell ?_ ?_ _); rotate_left; (focus (dsimp only; first | omega | (simp only [size_ext, World.size_alloc, Array.size_append]; omega)))) | (with_reducible refine Grew.drewN ?_ _) | (with_reducible refine Grew.drew ?_))))) | ((with_reducible refine upon_id ?_); refine upon_fop rfl (by assumption) (by assumption) ?_; intro rr nn hr) | (go_at_call 186; ((with_reducible refine (hx1 _ (by (show Grew _ _; (try simp only [← Array.append_assoc]); repeat (first | (with_reducible exact Grew.same_o) | (with_reducible exact Grew.refl _) | (with_reducible assumption) | (with_reducible refine Grew.alloc ?_ _) | (with_reducible refine Grew.app_r ?_) | ((with_reducible refine Grew.setCell ?_ ?_ _); rotate_left; (focus (dsimp only; first | omega | (simp only [size_ext, World.size_alloc, Array.size_append]; omega)))) | (with_reducible refine Grew.ext ?_ _ _) | (with_reducible refine Grew.drewN ?_ _) | (with_reducible refine Grew.drew ?_))))).mono ?_); rintro e w1 ⟨b1, rfl, hb1, o4, n4, rfl⟩; (have za := hG0 _ hb1; have zb := hG1 _ hb1))) | (go_at_call 186; ((with_reducible refine (hy1 _ (by (show Grew _ _; (try simp only [← Array.append_assoc]); repeat (first | (with_reducible exact Grew.same_o) | (with_reducible exact Grew.refl _) | (with_reducible assumption) | (with_reducible refine Grew.alloc ?_ _) | (with_reducible refine Grew.app_r ?_) | ((with_reducible refine Grew.setCell ?_ ?_ _); rotate_left; (focus (dsimp only; first | omega | (simp only [size_ext, World.size_alloc, Array.size_append]; omega)))) | (with_reducible refine Grew.ext ?_ _ _) | (with_reducible refine Grew.drewN ?_ _) | (with_reducible refine Grew.drew ?_))))).mono ?_); rintro e w1 ⟨b2, rfl, hb2, o5, n5, rfl⟩; (have ya := hF0 _ hb2))) | (go_at_call 178; ((with_reducible refine (hex1 _ _ hb1).mono ?_); rintro e w1 ⟨rfl, o6, n6, rfl⟩)) | (go_at_call 178; ((with_reducible refine (hex2 _ _ hb2).mono ?_); rintro e w1 ⟨rfl, o7, n7, rfl⟩)) | (go_at_call 162; ((with_reducible refine (hsc2 _ _ hb2).mono ?_); rintro e w1 ⟨r, rfl, hr8, o8, n8, rfl⟩; (have xa := hR0 _ _ hr8 hb1; have xb := hR1 _ _ hr8 hb1))))
                    go_roundw
                    case rel => exact ⟨j + 1, hjC, rfl, by go_num, Grew.trans gx (by (show Grew _ _; (try simp only [← Array.append_assoc]); repeat (first | (with_reducible exact Grew.same_o) | (with_reducible exact Grew.refl _) | (with_reducible assumption) | (with_reducible refine Grew.alloc ?_ _) | (with_reducible refine Grew.app_r ?_) | ((with_reducible refine Grew.setCell ?_ ?_ _); rotate_left; (focus (dsimp only; first | omega | (simp only [size_ext, World.size_alloc, Array.size_append]; omega)))) | (with_reducible refine Grew.ext ?_ _ _) | (with_reducible refine Grew.drewN ?_ _) | (with_reducible refine Grew.drew ?_)))), hid fun b hb => by
                      by_cases h : b < j
                      · exact hT2.out b h
                      · have e : b = j := by omega
                        subst e; rw [← HPX.out, HXP.out]; rfl⟩
                    case measure => simp [intOf]; omega
                · go_wp2
                  refine wp_region_R (Grew wr) [] [(0,0), (0,1), (0,2), (0,4), (0,5), (0,6), (1,3), (1,7), (0,8), (0,9)] (by kernel_rfl) (by kernel_rfl) (fun _ _ _ _ h _ => h) (by first | exact ⟨_, _, ext_drew⟩ | exact ⟨_, _, drew_ext0⟩ | (show Grew _ _; repeat (first | (with_reducible exact Grew.refl _) | (with_reducible assumption) | (with_reducible exact Grew.same_o) | (with_reducible exact Grew.app_o) | (with_reducible refine Grew.ext ?_ _ _) | (with_reducible refine Grew.alloc ?_ _) | ((with_reducible refine Grew.setCell ?_ ?_ _); rotate_left; (focus (dsimp only; first | omega | (simp only [size_ext, World.size_alloc, Array.size_append]; omega)))) | (with_reducible refine Grew.drewN ?_ _) | (with_reducible refine Grew.drew ?_)))) ?_
                  go_wp2_with (first | ((with_reducible refine wpR_id ?_); first | (refine wpR_take (v := ?_) rfl rfl ?_ ?_; rotate_left; (focus (rintro w' ⟨o', n', rfl⟩; go_simp; try with_reducible rfl)); simp only [Act.put, List.setIfInBounds_toArray, List.set_cons_zero, List.set_cons_succ]) | (refine wpR_pure (v := ?_) rfl rfl ?_ ?_; rotate_left; (focus (intro w'; go_simp; try with_reducible rfl)); simp only [Act.put, List.setIfInBounds_toArray, List.set_cons_zero, List.set_cons_succ]) | (refine wpR_takeG (v := ?_) rfl rfl rfl rfl rfl ?_ ?_; rotate_left; (focus (rintro w' ⟨o', n', rfl⟩; go_simp; try with_reducible rfl)); simp only [Act.put, List.setIfInBounds_toArray, List.set_cons_zero, List.set_cons_succ]) | (refine wpR_skip rfl rfl rfl rfl rfl rfl ?_; simp only [Act.put, List.setIfInBounds_toArray, List.set_cons_zero, List.set_cons_succ]) | (refine wpR_skipU rfl rfl rfl rfl rfl ?_; simp only [Act.put, List.setIfInBounds_toArray, List.set_cons_zero, List.set_cons_succ]) | (refine wpR_do rfl rfl (fun K hK => ?_)) | (refine wpR_doG rfl rfl rfl rfl rfl (fun K hK => ?_)) | (refine wpR_last rfl rfl (fun K hK => ?_)) | (refine wpR_nil ?_)) | ((with_reducible refine wpR_go ?_ ?_); (focus (show Grew _ _; repeat (first | (with_reducible exact Grew.refl _) | (with_reducible assumption) | (with_reducible exact Grew.same_o) | (with_reducible exact Grew.app_o) | (with_reducible refine Grew.ext ?_ _ _) | (with_reducible refine Grew.alloc ?_ _) | ((with_reducible refine Grew.setCell ?_ ?_ _); rotate_left; (focus (dsimp only; first | omega | (simp only [size_ext, World.size_alloc, Array.size_append]; omega)))) | (with_reducible refine Grew.drewN ?_ _) | (with_reducible refine Grew.drew ?_))))) | ((with_reducible refine upon_id ?_); refine upon_fop rfl (by assumption) (by assumption) ?_; intro rr nn hr) | (go_at_call 186; ((with_reducible refine (hx1 _ (by (show Grew _ _; (try simp only [← Array.append_assoc]); repeat (first | (with_reducible exact Grew.same_o) | (with_reducible exact Grew.refl _) | (with_reducible assumption) | (with_reducible refine Grew.alloc ?_ _) | (with_reducible refine Grew.app_r ?_) | ((with_reducible refine Grew.setCell ?_ ?_ _); rotate_left; (focus (dsimp only; first | omega | (simp only [size_ext, World.size_alloc, Array.size_append]; omega)))) | (with_reducible refine Grew.ext ?_ _ _) | (with_reducible refine Grew.drewN ?_ _) | (with_reducible refine Grew.drew ?_))))).mono ?_); rintro e w1 ⟨b1, rfl, hb1, o4, n4, rfl⟩; (have za := hG0 _ hb1; have zb := hG1 _ hb1))) | (go_at_call 186; ((with_reducible refine (hy1 _ (by (show Grew _ _; (try simp only [← Array.append_assoc]); repeat (first | (with_reducible exact Grew.same_o) | (with_reducible exact Grew.refl _) | (with_reducible assumption) | (with_reducible refine Grew.alloc ?_ _) | (with_reducible refine Grew.app_r ?_) | ((with_reducible refine Grew.setCell ?_ ?_ _); rotate_left; (focus (dsimp only; first | omega | (simp only [size_ext, World.size_alloc, Array.size_append]; omega)))) | (with_reducible refine Grew.ext ?_ _ _) | (with_reducible refine Grew.drewN ?_ _) | (with_reducible refine Grew.drew ?_))))).mono ?_); rintro e w1 ⟨b2, rfl, hb2, o5, n5, rfl⟩; (have ya := hF0 _ hb2))) | (go_at_call 178; ((with_reducible refine (hex1 _ _ hb1).mono ?_); rintro e w1 ⟨rfl, o6, n6, rfl⟩)) | (go_at_call 178; ((with_reducible refine (hex2 _ _ hb2).mono ?_); rintro e w1 ⟨rfl, o7, n7, rfl⟩)) | (go_at_call 162; ((with_reducible refine (hsc2 _ _ hb2).mono ?_); rintro e w1 ⟨r, rfl, hr8, o8, n8, rfl⟩; (have xa := hR0 _ _ hr8 hb1; have xb := hR1 _ _ hr8 hb1))))
                  go_ret
                  exact HP.out _ _ (by rw [Bool.true_and, Bool.true_and]; exact (exAll_no hiR hjC (by rw [← HPX.out, HXP.out]; rfl)).symm) (Grew.trans gw (Grew.trans gx (by (show Grew _ _; (try simp only [← Array.append_assoc]); repeat (first | (with_reducible exact Grew.same_o) | (with_reducible exact Grew.refl _) | (with_reducible assumption) | (with_reducible refine Grew.alloc ?_ _) | (with_reducible refine Grew.app_r ?_) | ((with_reducible refine Grew.setCell ?_ ?_ _); rotate_left; (focus (dsimp only; first | omega | (simp only [size_ext, World.size_alloc, Array.size_append]; omega)))) | (with_reducible refine Grew.ext ?_ _ _) | (with_reducible refine Grew.drewN ?_ _) | (with_reducible refine Grew.drew ?_))))))
              · go_wp2
                refine wp_region_R (Grew wr) [] [(0,0), (0,1), (0,2), (0,4), (0,5), (0,6), (1,3), (1,7), (0,8), (0,9)] (by kernel_rfl) (by kernel_rfl) (fun _ _ _ _ h _ => h) (by first | exact ⟨_, _, ext_drew⟩ | exact ⟨_, _, drew_ext0⟩ | (show Grew _ _; repeat (first | (with_reducible exact Grew.refl _) | (with_reducible assumption) | (with_reducible exact Grew.same_o) | (with_reducible exact Grew.app_o) | (with_reducible refine Grew.ext ?_ _ _) | (with_reducible refine Grew.alloc ?_ _) | ((with_reducible refine Grew.setCell ?_ ?_ _); rotate_left; (focus (dsimp only; first | omega | (simp only [size_ext, World.size_alloc, Array.size_append]; omega)))) | (with_reducible refine Grew.drewN ?_ _) | (with_reducible refine Grew.drew ?_)))) ?_
                go_wp2_with (first | ((with_reducible refine wpR_id ?_); first | (refine wpR_take (v := ?_) rfl rfl ?_ ?_; rotate_left; (focus (rintro w' ⟨o', n', rfl⟩; go_simp; try with_reducible rfl)); simp only [Act.put, List.setIfInBounds_toArray, List.set_cons_zero, List.set_cons_succ]) | (refine wpR_pure (v := ?_) rfl rfl ?_ ?_; rotate_left; (focus (intro w'; go_simp; try with_reducible rfl)); simp only [Act.put, List.setIfInBounds_toArray, List.set_cons_zero, List.set_cons_succ]) | (refine wpR_takeG (v := ?_) rfl rfl rfl rfl rfl ?_ ?_; rotate_left; (focus (rintro w' ⟨o', n', rfl⟩; go_simp; try with_reducible rfl)); simp only [Act.put, List.setIfInBounds_toArray, List.set_cons_zero, List.set_cons_succ]) | (refine wpR_skip rfl rfl rfl rfl rfl rfl ?_; simp only [Act.put, List.setIfInBounds_toArray, List.set_cons_zero, List.set_cons_succ]) | (refine wpR_skipU rfl rfl rfl rfl rfl ?_; simp only [Act.put, List.setIfInBounds_toArray, List.set_cons_zero, List.set_cons_succ]) | (refine wpR_do rfl rfl (fun K hK => ?_)) | (refine wpR_doG rfl rfl rfl rfl rfl (fun K hK => ?_)) | (refine wpR_last rfl rfl (fun K hK => ?_)) | (refine wpR_nil ?_)) | ((with_reducible refine wpR_go ?_ ?_); (focus (show Grew _ _; repeat (first | (with_reducible exact Grew.refl _) | (with_reducible assumption) | (with_reducible exact Grew.same_o) | (with_reducible exact Grew.app_o) | (with_reducible refine Grew.ext ?_ _ _) | (with_reducible refine Grew.alloc ?_ _) | ((with_reducible refine Grew.setCell ?_ ?_ _); rotate_left; (focus (dsimp only; first | omega | (simp only [size_ext, World.size_alloc, Array.size_append]; omega)))) | (with_reducible refine Grew.drewN ?_ _) | (with_reducible refine Grew.drew ?_))))) | ((with_reducible refine upon_id ?_); refine upon_fop rfl (by assumption) (by assumption) ?_; intro rr nn hr) | (go_at_call 186; ((with_reducible refine (hx1 _ (by (show Grew _ _; (try simp only [← Array.append_assoc]); repeat (first | (with_reducible exact Grew.same_o) | (with_reducible exact Grew.refl _) | (with_reducible assumption) | (with_reducible refine Grew.alloc ?_ _) | (with_reducible refine Grew.app_r ?_) | ((with_reducible refine Grew.setCell ?_ ?_ _); rotate_left; (focus (dsimp only; first | omega | (simp only [size_ext, World.size_alloc, Array.size_append]; omega)))) | (with_reducible refine Grew.ext ?_ _ _) | (with_reducible refine Grew.drewN ?_ _) | (with_reducible refine Grew.drew ?_))))).mono ?_); rintro e w1 ⟨b1, rfl, hb1, o4, n4, rfl⟩; (have za := hG0 _ hb1; have zb := hG1 _ hb1))) | (go_at_call 186; ((with_reducible refine (hy1 _ (by (show Grew _ _; (try simp only [← Array.append_assoc]); repeat (first | (with_reducible exact Grew.same_o) | (with_reducible exact Grew.refl _) | (with_reducible assumption) | (with_reducible refine Grew.alloc ?_ _) | (with_reducible refine Grew.app_r ?_) | ((with_reducible refine Grew.setCell ?_ ?_ _); rotate_left; (focus (dsimp only; first | omega | (simp only [size_ext, World.size_alloc, Array.size_append]; omega)))) | (with_reducible refine Grew.ext ?_ _ _) | (with_reducible refine Grew.drewN ?_ _) | (with_reducible refine Grew.drew ?_))))).mono ?_); rintro e w1 ⟨b2, rfl, hb2, o5, n5, rfl⟩; (have ya := hF0 _ hb2))) | (go_at_call 178; ((with_reducible refine (hex1 _ _ hb1).mono ?_); rintro e w1 ⟨rfl, o6, n6, rfl⟩)) | (go_at_call 178; ((with_reducible refine (hex2 _ _ hb2).mono ?_); rintro e w1 ⟨rfl, o7, n7, rfl⟩)) | (go_at_call 162; ((with_reducible refine (hsc2 _ _ hb2).mono ?_); rintro e w1 ⟨r, rfl, hr8, o8, n8, rfl⟩; (have xa := hR0 _ _ hr8 hb1; have xb := hR1 _ _ hr8 hb1))))
                go_roundw
                case rel => exact ⟨j + 1, hjC, rfl, by go_num, Grew.trans gx (by (show Grew _ _; (try simp only [← Array.append_assoc]); repeat (first | (with_reducible exact Grew.same_o) | (with_reducible exact Grew.refl _) | (with_reducible assumption) | (with_reducible refine Grew.alloc ?_ _) | (with_reducible refine Grew.app_r ?_) | ((with_reducible refine Grew.setCell ?_ ?_ _); rotate_left; (focus (dsimp only; first | omega | (simp only [size_ext, World.size_alloc, Array.size_append]; omega)))) | (with_reducible refine Grew.ext ?_ _ _) | (with_reducible refine Grew.drewN ?_ _) | (with_reducible refine Grew.drew ?_)))), hid fun b hb => by
                  by_cases h : b < j
                  · exact hT2.out b h
                  · have e : b = j := by omega
                    subst e; rw [← HPX.out, HXP.out]; rfl⟩
                case measure => simp [intOf]; omega
            · have e : j = C := by omega
              subst e
              go_wp2
              go_roundw
              case rel => exact ⟨i + 1, hiR, rfl, by go_num, gx, hid fun a b ha hb => by
                by_cases h : a < i
                · exact hT1.out a b h hb
                · have e : a = i := by omega
                  subst e; exact hT2.out b hb⟩
              case measure => simp [intOf]; omega
        · have e : i = R := by omega
          subst e
          go_wp2
          go_ret
          exact HP.out _ _ (by rw [Bool.true_and, Bool.true_and]; exact (exAll_iff.2 fun a b ha hb => hT1.out a b ha hb).symm) (Grew.trans gw (Grew.trans gr (by (show Grew _ _; (try simp only [← Array.append_assoc]); repeat (first | (with_reducible exact Grew.same_o) | (with_reducible exact Grew.refl _) | (with_reducible assumption) | (with_reducible refine Grew.alloc ?_ _) | (with_reducible refine Grew.app_r ?_) | ((with_reducible refine Grew.setCell ?_ ?_ _); rotate_left; (focus (dsimp only; first | omega | (simp only [size_ext, World.size_alloc, Array.size_append]; omega)))) | (with_reducible refine Grew.ext ?_ _ _) | (with_reducible refine Grew.drewN ?_ _) | (with_reducible refine Grew.drew ?_))))))
end Go.Proofs.Ytcmggfpcbijcjaa
end
