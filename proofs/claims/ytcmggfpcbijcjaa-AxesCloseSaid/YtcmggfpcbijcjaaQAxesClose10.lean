/-
  Texts laid one behind the other (a claim has at most 60 files): Dy1, Dy2, Back, LawBack, Dy3, FltBest, Close1, FltSum, FltRest, FltDiv, Dy4, FltBack.
-/
import Derived.Deep.CutBlock
import Derived.Deep.DeepCutAuto
import Derived.Laws.FloatBits
import Derived.Test.YtcmggfpcbijcjaaQAxesClose1
import Derived.Test.YtcmggfpcbijcjaaQAxesClose2
import Derived.Test.YtcmggfpcbijcjaaQAxesClose3
import Derived.Test.YtcmggfpcbijcjaaQAxesClose4
import Derived.Test.YtcmggfpcbijcjaaQAxesClose5
import Derived.Test.YtcmggfpcbijcjaaQAxesClose6
import Derived.Test.YtcmggfpcbijcjaaQAxesClose7
import Derived.Test.YtcmggfpcbijcjaaQAxesClose8
import Derived.Test.YtcmggfpcbijcjaaQAxesClose9
section
/-
  Contracts: the reference's digits (layer 2): floor, power.
-/
set_option linter.unusedSimpArgs false
set_option linter.unusedVariables false
open Go Go.RowKit Sedge
namespace Go.Proofs.Ytcmggfpcbijcjaa
theorem tmod16 (k : Int) : k.tmod 16 = if 0 ≤ k then k % 16 else -((-k) % 16) := by
  split
  · rename_i h; exact Int.tmod_eq_emod_of_nonneg h
  · rename_i h
    have : k.tmod 16 = -((-k).tmod 16) := by rw [Int.neg_tmod, Int.neg_neg]
    rw [this, Int.tmod_eq_emod_of_nonneg (by omega)]
theorem floor_arith (k : Int) : -16 < k.tmod 16 ∧ k.tmod 16 < 16 ∧ (k.tmod 16 + 16).tmod 16 = k % 16 ∧ (k - k % 16).tdiv 16 = k / 16 := by
  have h := tmod16 k
  have hb : -16 < k.tmod 16 ∧ k.tmod 16 < 16 := by rw [h]; split <;> omega
  have e1 : (k.tmod 16 + 16).tmod 16 = (k.tmod 16 + 16) % 16 := Int.tmod_eq_emod_of_nonneg (by omega)
  have e2 : (k - k % 16).tdiv 16 = k / 16 := by
    rw [show k - k % 16 = k / 16 * 16 by omega, Int.mul_tdiv_cancel _ (by decide)]
  refine ⟨hb.1, hb.2, ?_, e2⟩
  rw [e1, h]
  split <;> omega
set_option maxRecDepth 100000 in
set_option maxHeartbeats 1000000 in
theorem floor_any (k : Int) (w : World) (hk : -1000000 ≤ k ∧ k ≤ 1000000) : Calls Try.prog 124 #[.int .i64 k] w (fun e w' => e = .returned (.tuple #[.int .i64 (k / 16), .int .i64 (k % 16)]) ∧ w' = w) := by
  obtain ⟨hb1, hb2, h1, h2⟩ := floor_arith k
  obtain ⟨R, hR⟩ : ∃ R, R = k % 16 := ⟨_, rfl⟩
  obtain ⟨Q, hQ⟩ : ∃ Q, Q = k / 16 := ⟨_, rfl⟩
  rw [← hR] at h1 h2 ⊢
  rw [← hQ] at h2 ⊢
  have a1 : IntKind.i64.wrap (k.tmod 16 + 16) = k.tmod 16 + 16 := IntWalk.i64_in _ (by omega)
  have a2 : IntKind.i64.wrap (k - R) = k - R := IntWalk.i64_in _ (by omega)
  have a3 : IntKind.i64.wrap Q = Q := IntWalk.i64_in _ (by omega)
  clear hR hQ
  go_enter Try.func124, Try.ntmps124
  go_wp2
  refine bodyPost_ret (v := .tuple #[.int .i64 Q, .int .i64 R]) (by simp [results, Try.results124, go_sem, *]) rfl ?_
  exact ⟨rfl, rfl⟩
theorem pow_le16 {j : Nat} (h : j ≤ 16) : 2 ^ j ≤ 65536 := Nat.pow_le_pow_right (n := 2) (by decide) h
set_option maxRecDepth 100000 in
set_option maxHeartbeats 1000000 in
theorem power_any (k : Nat) (w : World) (hk : k ≤ 16) : Calls Try.prog 125 #[.int .i64 k] w (fun e w' => e = .returned (.int .i64 ((2 ^ k : Nat) : Int)) ∧ w' = w) := by
  go_enter Try.func125, Try.ntmps125
  go_wp2
  go_loopw [3, 4] (fun c d wr => ∃ j : Nat, j ≤ k ∧ c = .int .i64 ((2 ^ j : Nat) : Int) ∧ d = .int .i64 j ∧ wr = w) (fun _ d _ => k - (intOf d).toNat)
  case atStart => exact ⟨0, Nat.zero_le _, rfl, rfl, rfl⟩
  case round =>
    obtain ⟨j, hj, rfl, rfl, rfl⟩ := hrel
    have hp := pow_le16 (Nat.le_trans hj hk)
    have hs : 2 ^ (j + 1) = 2 ^ j * 2 := Nat.pow_succ 2 j
    generalize hP : 2 ^ j = P at *
    by_cases hlt : j < k
    · have HS := hid hs
      clear hs
      go_wp2
      go_roundw
      case rel => exact ⟨j + 1, by omega, by rw [HS.out]; go_num, by go_num, by trivial⟩
      case measure => simp [intOf]; omega
    · have e : j = k := by omega
      subst e
      go_wp2
      go_ret
      exact ⟨ret_int (by rw [hP]), rfl⟩
/-- A number of the reference: its places lie from lo up to hi. -/
def DV (w : World) (v : Value) (q : Rat) (lo hi : Int) : Prop :=
  ∃ (neg : Bool) (L : Value) (E : Int) (l : List Nat), v = .agg #[.bool neg, L, .int .i64 E] ∧ NS w L l ∧ Dg l ∧ q = dat neg (dv l) (16 * E) ∧ (dv l = 0 → l = []) ∧ (l = [] → E = 0 ∧ neg = false) ∧ (l ≠ [] → lo ≤ E ∧ E + l.length ≤ hi)
theorem DV.grew {w w' : World} {v : Value} {q : Rat} {lo hi : Int} (h : DV w v q lo hi) (g : Grew w w') : DV w' v q lo hi := by
  obtain ⟨neg, L, E, l, h1, h2, h3⟩ := h
  exact ⟨neg, L, E, l, h1, h2.grew g, h3⟩
theorem DV.mono {w : World} {v : Value} {q : Rat} {lo hi lo' hi' : Int} (h : DV w v q lo hi) (h1 : lo' ≤ lo) (h2 : hi ≤ hi') : DV w v q lo' hi' := by
  obtain ⟨neg, L, E, l, a1, a2, a3, a4, a5, a6, a7⟩ := h
  exact ⟨neg, L, E, l, a1, a2, a3, a4, a5, a6, fun h => by have := a7 h; omega⟩
theorem DV.shape {w : World} {v : Value} {q : Rat} {lo hi : Int} (h : DV w v q lo hi) : ∃ ng a n c E, v = .agg #[.bool ng, .slice a n c, .int .i64 E] := by
  obtain ⟨ng, L, E, l, rfl, hN, _⟩ := h
  obtain ⟨a, c, rfl⟩ := hN.shape
  exact ⟨ng, a, _, c, E, rfl⟩
theorem DV.ext {w : World} {v : Value} {q : Rat} {lo hi : Int} (h : DV w v q lo hi) (o : Array Obj) (n : Nat) : DV (Sedge.ext w o n) v q lo hi := h.grew ⟨_, _, rfl⟩
def lenOf : Value → Nat
  | .slice _ n _ => n
  | _ => 0
def dLen : Value → Nat
  | .agg a => match a[1]? with
    | some L => lenOf L
    | none => 0
  | _ => 0
/-- The block of its digits. -/
def dBlock : Value → Option Nat
  | .agg a => match a[1]? with
    | some L => L.ownBlock
    | none => none
  | _ => none
theorem _root_.Sedge.NS.setCell {w : World} {v : Value} {l : List Nat} (h : NS w v l) {b i : Nat} (hb : ∀ k, v.ownBlock = some k → k ≠ b) (u : Value) : NS (w.setCell ⟨b, i, none⟩ u) v l := by
  obtain ⟨a, cap, hv, h0, hc⟩ := h
  refine ⟨a, cap, hv, h0, fun j hj => ?_⟩
  obtain ⟨blk, o, he, h1⟩ := hc j hj
  refine ⟨blk, o, he, ?_⟩
  rw [← h1]
  have hne : blk ≠ b := hb blk (by rw [hv, he]; rfl)
  unfold World.cell?
  show (match (w.heap.modify b _)[blk]? with | some (.cells cs _ _) => _ | _ => _) = _
  rw [Array.getElem?_modify, if_neg (by omega)]
  rfl
theorem DV.setCell {w : World} {v : Value} {q : Rat} {lo hi : Int} (h : DV w v q lo hi) {b i : Nat} (hb : ∀ k, dBlock v = some k → k ≠ b) (u : Value) : DV (w.setCell ⟨b, i, none⟩ u) v q lo hi := by
  obtain ⟨neg, L, E, l, rfl, h2, h3⟩ := h
  exact ⟨neg, L, E, l, rfl, h2.setCell (fun k hk => hb k hk) u, h3⟩
theorem DV.ext_set {w : World} {v : Value} {q : Rat} {lo hi : Int} {o : Array Obj} {n : Nat} (h : DV (Sedge.ext w o n) v q lo hi) {b i : Nat} (h1 : b < w.heap.size) (hb : ∀ k, dBlock v = some k → k ≠ b) (u : Value) : DV (Sedge.ext (w.setCell ⟨b, i, none⟩ u) o n) v q lo hi := by
  rw [← setCell_ext h1]
  exact h.setCell hb u
theorem DV.ext_set3 {w : World} {v : Value} {q : Rat} {lo hi : Int} {o : Array Obj} {n : Nat} (h : DV (Sedge.ext w o n) v q lo hi) {b i j k : Nat} (h1 : b < w.heap.size) (hb : ∀ k, dBlock v = some k → k ≠ b) (x y z : Value) :
    DV (Sedge.ext (((w.setCell ⟨b, i, none⟩ x).setCell ⟨b, j, none⟩ y).setCell ⟨b, k, none⟩ z) o n) v q lo hi :=
  ((h.ext_set h1 hb x).ext_set (by simpa [size_setCell'] using h1) hb y).ext_set (by simpa [size_setCell'] using h1) hb z
theorem DV.set3 {w : World} {v : Value} {q : Rat} {lo hi : Int} (h : DV w v q lo hi) {b i j k : Nat} (hb : ∀ k, dBlock v = some k → k ≠ b) (x y z : Value) :
    DV (((w.setCell ⟨b, i, none⟩ x).setCell ⟨b, j, none⟩ y).setCell ⟨b, k, none⟩ z) v q lo hi := ((h.setCell hb x).setCell hb y).setCell hb z
theorem grew_set3 {w X : World} (g : Grew w X) {b i j k : Nat} (hb : w.heap.size ≤ b) (x y z : Value) (o : Array Obj) (n : Nat) : Grew w (Sedge.ext (((X.setCell ⟨b, i, none⟩ x).setCell ⟨b, j, none⟩ y).setCell ⟨b, k, none⟩ z) o n) :=
  (((g.setCell (a := ⟨b, i, none⟩) hb x).setCell (a := ⟨b, j, none⟩) hb y).setCell (a := ⟨b, k, none⟩) hb z).ext _ _
theorem dat_shift (neg : Bool) (l : List Nat) (E : Int) : dat neg (dv (0 :: l)) (16 * E) = dat neg (dv l) (16 * (E + 1)) := by
  unfold dat
  have e1 : ((dv (0 :: l) : Nat) : Rat) = p2 16 * (dv l : Rat) := by
    show ((0 + 65536 * dv l : Nat) : Rat) = _
    rw [Nat.zero_add, Rat.natCast_mul, show p2 16 = ((65536 : Nat) : Rat) by decide +kernel]
  have e2 : p2 (16 * (E + 1)) = p2 16 * p2 (16 * E) := by rw [← p2_add]; congr 1; omega
  rw [e1, e2]; grind
end Go.Proofs.Ytcmggfpcbijcjaa
end
section
/-
  Contracts: the reference's digits (layer 2): Made.
-/
set_option linter.unusedSimpArgs false
set_option linter.unusedVariables false
open Go Go.RowKit Sedge
namespace Go.Proofs.Ytcmggfpcbijcjaa
set_option maxRecDepth 100000 in
set_option maxHeartbeats 2000000 in
/-- Made. -/
theorem made_any (neg : Bool) (L : Value) (l : List Nat) (E : Int) (w : World) (hL : NS w L l) (hg : Dg l) (hl : l.length ≤ 1000000) (hE : -1000000 ≤ E ∧ E ≤ 1000000) :
   Calls Try.prog 120 #[.bool neg, L, .int .i64 E] w (fun e w' => ∃ v, e = .returned v ∧ DV w' v (dat neg (dv l) (16 * E)) E (E + l.length) ∧ (∀ k, dBlock v = some k → L.ownBlock = some k) ∧ ∃ o n, w' = ext w o n) := by
  obtain ⟨q0, hq0⟩ : ∃ q0, q0 = dat neg (dv l) (16 * E) := ⟨_, rfl⟩
  rw [← hq0]
  go_enter Try.func120, Try.ntmps120
  go_upto_block 0 with fail
  refine name_any (fun W hW => ?_)
  have g0 : Grew w W := by rw [← hW]; (show Grew _ _; repeat (first | (with_reducible exact Grew.refl _) | (with_reducible assumption) | (with_reducible exact Grew.same_o) | (with_reducible exact Grew.app_o) | (with_reducible refine Grew.ext ?_ _ _) | (with_reducible refine Grew.alloc ?_ _) | ((with_reducible refine Grew.setCell ?_ ?_ _); rotate_left; (focus (dsimp only; first | omega | (simp only [size_ext, World.size_alloc, Array.size_append]; omega)))) | (with_reducible refine Grew.drewN ?_ _) | (with_reducible refine Grew.drew ?_)))
  have s1 : w.heap.size < W.heap.size := by rw [← hW]; simp only [World.size_alloc]; omega
  have f1 : ∀ i, W.frozen? ⟨w.heap.size, i, none⟩ = false := by subst hW; intro i; go_simp
  have b1 : ∀ i, W.cell? ⟨w.heap.size, i, none⟩ = (#[.bool false, .slice none 0 0, .int .i64 0] : Array Value)[i]? := by subst hW; intro i; go_simp
  have hLW := hL.grew g0
  clear hW
  go_cut [1, 2] (fun c d wx => ∃ (l' : List Nat) (E' : Int), d = .int .i64 E' ∧ NS w c l' ∧ Dg l' ∧ q0 = dat neg (dv l') (16 * E') ∧ E ≤ E' ∧ E' + l'.length = E + l.length ∧ (∀ k, c.ownBlock = some k → L.ownBlock = some k) ∧ wx = W)
  case first =>
    go_wp2_with fail
    go_loopw [1, 2] (fun c d wx => ∃ (l' : List Nat) (E' : Int), d = .int .i64 E' ∧ NS w c l' ∧ Dg l' ∧ q0 = dat neg (dv l') (16 * E') ∧ E ≤ E' ∧ E' + l'.length = E + l.length ∧ (∀ k, c.ownBlock = some k → L.ownBlock = some k) ∧ wx = W) (fun c _ _ => lenOf c)
    case atStart => exact ⟨l, E, rfl, hL, hg, hq0, Int.le_refl _, rfl, fun _ h => h, rfl⟩
    case round =>
      obtain ⟨l', E', rfl, hN, hD, hQ, h1, h2, hob, hwr⟩ := hrel
      have HOB := hid hob
      clear hob
      subst hwr
      have HQ := hid hQ
      clear hQ
      cases l' with
      | nil =>
        obtain ⟨a, cap, rfl⟩ := hN.shape
        go_wp2
        go_meet
        exact ⟨[], E', rfl, hN, hD, HQ.out, h1, h2, HOB.out, by trivial⟩
      | cons x l' =>
        obtain ⟨blk, o, cap, rfl, hblk, hcap, hc⟩ := hN.open (by simp)
        have hc0 := (g0.cell hblk).trans (hc 0 (by simp))
        rw [Nat.add_zero] at hc0
        change _ = some (Value.int .i64 (x : Int)) at hc0
        clear hc
        by_cases h0 : x = 0
        · subst h0
          have hT := hN.tail'
          have hb : E' ≤ 2000000 := by simp at h2; omega
          have HL := hid h2
          clear h2
          go_wp2
          go_roundw
          case rel => exact ⟨l', E' + 1, by go_num, hT, hD.tail, by rw [HQ.out, dat_shift], by omega, by have := HL.out; simp at this; omega, fun k hk => HOB.out k (by rw [← hk]; split <;> rfl), by trivial⟩
          case measure => simp [lenOf]
        · have b0 : ((x : Int) == 0) = false := by rw [beq_eq_false_iff_ne]; omega
          go_wp2
          go_meet
          exact ⟨x :: l', E', rfl, hN, hD, HQ.out, h1, h2, HOB.out, by trivial⟩
  case rest =>
    obtain ⟨l1, E1, rfl, hN1, hD1, hQ1, h1, h2, hob1, rfl⟩ := hcut
    have HQ1 := hid hQ1
    have HOB1 := hid hob1
    clear hob1
    clear hQ1
    have hb1 : E1 ≤ 2000000 := by omega
    have W1 := hid h2
    clear h2
    go_wp2_with fail
    go_loopw [1] (fun c wx => ∃ (l' : List Nat), NS w c l' ∧ Dg l' ∧ q0 = dat neg (dv l') (16 * E1) ∧ l'.length ≤ l1.length ∧ (∀ k, c.ownBlock = some k → L.ownBlock = some k) ∧ wx = wc) (fun c _ => lenOf c)
    case atStart => exact ⟨l1, hN1, hD1, HQ1.out, Nat.le_refl _, HOB1.out, rfl⟩
    case round =>
      obtain ⟨l', hN, hD, hQ, h2, hob, hwr⟩ := hrel
      have HOB := hid hob
      clear hob
      subst hwr
      have HQ := hid hQ
      have HL2 := hid h2
      have hl2 : l'.length ≤ 1000000 := by have := W1.out; omega
      clear hQ h2
      rcases Nat.eq_zero_or_pos l'.length with h0 | h0
      · have : l' = [] := List.length_eq_zero_iff.1 h0
        subst this
        obtain ⟨a, cap, rfl⟩ := hN.shape
        go_wp2
        refine bodyPost_ret (by simp [results, Try.results120, go_sem, *]; rfl) rfl ?_
        refine ⟨_, rfl, ⟨false, _, 0, [], rfl, NS.nil _, Dg.nil, by rw [HQ.out]; show dat neg 0 _ = dat false 0 _; rw [dat_zero, dat_zero], fun _ => rfl, fun _ => ⟨rfl, rfl⟩, fun h => absurd rfl h⟩, (fun k hk => by cases hk), by (show Grew _ _; repeat (first | (with_reducible exact Grew.refl _) | (with_reducible assumption) | (with_reducible exact Grew.same_o) | (with_reducible exact Grew.app_o) | (with_reducible refine Grew.ext ?_ _ _) | (with_reducible refine Grew.alloc ?_ _) | ((with_reducible refine Grew.setCell ?_ ?_ _); rotate_left; (focus (dsimp only; first | omega | (simp only [size_ext, World.size_alloc, Array.size_append]; omega)))) | (with_reducible refine Grew.drewN ?_ _) | (with_reducible refine Grew.drew ?_)))⟩
      · obtain ⟨m, hm⟩ : ∃ m, l'.length = m + 1 := ⟨l'.length - 1, by omega⟩
        obtain ⟨blk, o, cap, rfl, hblk, hcap, hc⟩ := hN.open h0
        have hc0 := (g0.cell hblk).trans (hc m (by omega))
        clear hc
        have hdl := hN.dropLast
        have hne : l' ≠ [] := by intro h; subst h; simp at hm
        have hgl : l'.getD m 0 = l'.getLast hne := by
          rw [List.getLast_eq_getElem, List.getD_eq_getElem?_getD, List.getElem?_eq_getElem (by omega)]
          simp [hm]
        obtain ⟨x, hx⟩ : ∃ x, x = l'.getD m 0 := ⟨_, rfl⟩
        rw [← hx] at hc0 hgl
        have HX := hid hgl
        rw [hm] at hdl hcap hN ⊢
        have hdrop := hid (show l'.dropLast.length = m by simp [hm])
        have hM := hid hm
        have hmb : m ≤ 1000000 := by omega
        have am : IntKind.i64.wrap (m : Int) = m := IntWalk.i64_in _ (by omega)
        clear hgl hx hm
        by_cases hx0 : x = 0
        · subst hx0
          have hdv := hid (dv_dropLast hne HX.out.symm)
          go_wp2
          go_roundw
          case rel => exact ⟨l'.dropLast, by rw [← hdrop.out] at hdl ⊢; exact hdl, hD.dropLast, by rw [HQ.out, hdv.out], by have := HL2.out; have := hM.out; rw [hdrop.out]; omega, HOB.out, by trivial⟩
          case measure => simp [lenOf]
        · have b0 : ((x : Int) == 0) = false := by rw [beq_eq_false_iff_ne]; omega
          have hdv : dv l' = 0 → l' = [] := fun h => absurd h (dv_pos hne (by rw [← HX.out]; exact hx0))
          have Hdv := hid hdv
          clear hdv
          go_wp2
          refine bodyPost_ret (by simp [results, Try.results120, go_sem, *]; rfl) rfl ?_
          refine ⟨_, rfl, ⟨neg, _, E1, l', rfl, ?_, hD, HQ.out, Hdv.out, fun h => absurd h hne, fun _ => ?_⟩, HOB.out, by (show Grew _ _; repeat (first | (with_reducible exact Grew.refl _) | (with_reducible assumption) | (with_reducible exact Grew.same_o) | (with_reducible exact Grew.app_o) | (with_reducible refine Grew.ext ?_ _ _) | (with_reducible refine Grew.alloc ?_ _) | ((with_reducible refine Grew.setCell ?_ ?_ _); rotate_left; (focus (dsimp only; first | omega | (simp only [size_ext, World.size_alloc, Array.size_append]; omega)))) | (with_reducible refine Grew.drewN ?_ _) | (with_reducible refine Grew.drew ?_)))⟩
          · rw [← hM.out] at hN ⊢
            exact hN.grew (by (show Grew _ _; repeat (first | (with_reducible exact Grew.refl _) | (with_reducible assumption) | (with_reducible exact Grew.same_o) | (with_reducible exact Grew.app_o) | (with_reducible refine Grew.ext ?_ _ _) | (with_reducible refine Grew.alloc ?_ _) | ((with_reducible refine Grew.setCell ?_ ?_ _); rotate_left; (focus (dsimp only; first | omega | (simp only [size_ext, World.size_alloc, Array.size_append]; omega)))) | (with_reducible refine Grew.drewN ?_ _) | (with_reducible refine Grew.drew ?_))))
          · have := HL2.out
            have := W1.out
            omega
end Go.Proofs.Ytcmggfpcbijcjaa
end
section
/-
  Plain: a number scaled up by a power of 2, and back.
-/
set_option linter.unusedSimpArgs false
set_option linter.unusedVariables false
open Go Go.RowKit Sedge Ieee
namespace Go.Proofs.Ytcmggfpcbijcjaa
theorem parts_of_read {y : Nat} (hy : y < 2 ^ 64) {s : Bool} {m : Nat} {p : Int} (h : D64.read y = .number s m p) : pKind y = 0 ∧ pNeg y = s ∧ pMag y = m ∧ pExp y = p := by
  rw [read_eq y hy] at h
  by_cases k : pKind y = 0
  · rw [if_pos k] at h
    simp only [Datum.number.injEq] at h
    exact ⟨k, h.1, h.2.1, h.2.2⟩
  · rw [if_neg k] at h
    split at h <;> cases h
/-- Digits as they are kept, read back. -/
theorem read_made (s : Bool) (l : Int) (M : Nat) (hl : -1074 ≤ l) (hM : M < 2 ^ 53) (hn : 2 ^ 52 ≤ M ∨ l = -1074) (hf : (l + 1074).toNat * BN + M < IR) :
    D64.read (D64.word s ((l + 1074).toNat * BN + M)) = .number s M l := by
  have p52 : (2:Nat) ^ 52 = 4503599627370496 := by decide
  have p53 : (2:Nat) ^ 53 = 9007199254740992 := by decide
  rw [p52] at hn
  rw [p53] at hM
  have hIR : IR = 9218868437227405312 := by decide +kernel
  by_cases h : 4503599627370496 ≤ M
  · have e : (l + 1074).toNat * BN + M = (l + 1075).toNat * BN + (M - 4503599627370496) := by unfold BN; omega
    have h2 : (l + 1075).toNat ≤ 2046 := by rw [hIR] at hf; unfold BN at hf; omega
    rw [e, read_mid s _ _ (by omega) h2 (by unfold BN; omega)]
    rw [show BN + (M - 4503599627370496) = M by unfold BN; omega, show (((l + 1075).toNat : Nat) : Int) - 1075 = l by omega]
  · have hl0 : l = -1074 := by omega
    subst hl0
    have e : (-1074 + 1074 : Int).toNat * BN + M = M := by simp
    rw [e, read_word s M (by unfold SW; omega), if_pos (by unfold BN; omega)]
theorem canon_word {x : Nat} (hx : x < 2 ^ 64) : x = D64.word (pNeg x) (expo x * BN + frac x) := by
  have p63 : (2:Nat) ^ 63 = 9223372036854775808 := by decide
  have p64 : (2:Nat) ^ 64 = 18446744073709551616 := by decide
  have hSW : SW = 9223372036854775808 := by decide +kernel
  rw [word_sN, ← rung_eq, p63]
  unfold pNeg sN
  rw [hSW]
  rw [p64] at hx
  by_cases h : x / 9223372036854775808 = 1
  · simp [h]; omega
  · simp [h]; omega
theorem rung_norm (E F : Nat) (h : E ≠ 0) : ((E : Int) - 1075 + ((0 : Nat) : Int) + 1074).toNat * BN + (F + BN) = E * BN + F := by
  have e : ((E : Int) - 1075 + ((0 : Nat) : Int) + 1074).toNat = E - 1 := by omega
  rw [e]
  obtain ⟨n, rfl⟩ : ∃ n, E = n + 1 := ⟨E - 1, by omega⟩
  rw [Nat.add_sub_cancel, Nat.add_mul, Nat.one_mul]
  generalize n * BN = a
  generalize BN = b
  omega
theorem rung_le {x : Nat} (h : expo x ≠ 2047) : expo x * BN + frac x ≤ IR := by
  have h1 := expo_lt x
  have h2 := frac_lt' x
  unfold BN IR; omega
/-- A finite number is the nearest to itself. -/
theorem nearest_parts {x : Nat} (hx : x < 2 ^ 64) (hk : pKind x = 0) (h0 : pMag x ≠ 0) : D64.nearest (pNeg x) (pMag x) (pExp x) = x := by
  have hge := pExp_ge x hk
  have hf := frac_lt' x
  have he := expo_lt x
  have hIR : IR = 9218868437227405312 := by decide +kernel
  have p52 : (2:Nat) ^ 52 = 4503599627370496 := by decide
  have hne : expo x ≠ 2047 := by
    intro e; unfold pKind at hk; rw [if_pos e] at hk; split at hk <;> omega
  have h2 : 2 ^ 52 ≤ pMag x ∨ pExp x ≤ -1074 := by
    unfold pMag pExp
    rw [if_neg hne, if_neg hne, p52]
    by_cases h : expo x = 0
    · right; rw [if_pos h]; omega
    · left; rw [if_neg h]; unfold BN; omega
  have hm := pMag_lt x
  rw [nearest_at (pNeg x) (pMag x) (pExp x) 0 h0 hm h2 (by simp; omega) (by simp), rne_zero]
  have e : (pExp x + (0 : Nat) + 1074).toNat * BN + pMag x = expo x * BN + frac x := by
    unfold pMag pExp
    rw [if_neg hne, if_neg hne]
    by_cases h : expo x = 0
    · rw [if_pos h, if_pos h, h]; simp
    · rw [if_neg h, if_neg h]; exact rung_norm _ _ h
  have hle := rung_le hne
  rw [e, Nat.min_eq_left hle]
  exact (canon_word hx).symm
theorem kcl_in {k : Int} (h : -5000 ≤ k ∧ k ≤ 5000) : kcl k = k := by unfold kcl; omega
/-- Up, and back. -/
theorem fscale_back {x : Nat} (hx : IsF x x) {k : Int} (h0 : 0 ≤ k) (h1 : k ≤ 255) (hf : finB (fscale x k) = true) : fscale (fscale x k) (-k) = x := by
  by_cases hp : pKind x = 0 ∧ pMag x ≠ 0
  · obtain ⟨hk, hm⟩ := hp
    have hge := pExp_ge x hk
    have hlt := pMag_lt x
    have e1 : fscale x k = D64.nearest (pNeg x) (pMag x) (pExp x + k) := by
      unfold fscale; rw [if_pos ⟨hk, hm⟩, kcl_in (by omega)]
    rw [e1] at hf ⊢
    have hself := nearest_parts hx.1 hk hm
    generalize pNeg x = s at *
    generalize pExp x = e at *
    generalize pMag x = m at *
    have hlog := log2_le_52 hm hlt
    have hle : lastP m (e + k) ≤ e + k := by unfold lastP; omega
    have hge2 := lastP_ge m (e + k)
    have hor := lastP_or m (e + k)
    obtain ⟨j, hj⟩ : ∃ j : Nat, lastP m (e + k) = e + k - j := ⟨(e + k - lastP m (e + k)).toNat, by omega⟩
    have hkept : keptP m (e + k) = m * 2 ^ j := by
      unfold keptP
      rw [hj, show (e + k - j - (e + k)).toNat = 0 by omega, show (e + k - (e + k - (j : Int))).toNat = j by omega, rne_zero, Nat.shiftLeft_eq]
    obtain ⟨a, b⟩ := log2_spec m hm
    have hj52 : m.log2 + j ≤ 52 := by omega
    have hM : m * 2 ^ j < 2 ^ 53 := by
      have := Nat.mul_lt_mul_of_pos_right b (Nat.two_pow_pos j)
      rw [← Nat.pow_add] at this
      exact Nat.lt_of_lt_of_le this (Nat.pow_le_pow_right (by decide) (by omega))
    have hn : 2 ^ 52 ≤ m * 2 ^ j ∨ e + k - j = -1074 := by
      rcases hor with h | h
      · left
        have hh : m.log2 + j = 52 := by omega
        have := Nat.mul_le_mul_right (2 ^ j) a
        rw [← Nat.pow_add, hh] at this
        exact this
      · right; omega
    have hnz : m * 2 ^ j ≠ 0 := Nat.mul_ne_zero hm (Nat.pos_iff_ne_zero.1 (Nat.two_pow_pos j))
    have hw := nearest_eq s m (e + k) hm
    rw [hj, hkept] at hw
    rw [hj] at hge2
    by_cases hfin : (e + k - j + 1074).toNat * BN + m * 2 ^ j < IR
    · rw [Nat.min_eq_left (Nat.le_of_lt hfin)] at hw
      have hr := read_made s (e + k - j) (m * 2 ^ j) hge2 hM hn hfin
      have hlt64 := (isF_word s _ (Nat.le_of_lt hfin)).1
      rw [← hw] at hr hlt64
      obtain ⟨p1, p2, p3, p4⟩ := parts_of_read hlt64 hr
      have e2 : fscale (D64.nearest s m (e + k)) (-k) = D64.nearest s (m * 2 ^ j) (e + k - j + -k) := by
        unfold fscale
        rw [if_pos ⟨p1, by rw [p3]; exact hnz⟩, p2, p3, p4, kcl_in (by omega)]
      rw [e2, show e + k - (j : Int) + -k = e - j by omega, nearest_scale s m j e hm]
      exact hself
    · rw [Nat.min_eq_right (by omega)] at hw
      rw [hw] at hf
      exfalso
      have : ∀ s, finB (D64.word s IR) = false := by intro s; cases s <;> decide +kernel
      rw [this s] at hf
      cases hf
  · have e1 : fscale x k = x := by unfold fscale; rw [if_neg hp]
    rw [e1]
    unfold fscale; rw [if_neg hp]
end Go.Proofs.Ytcmggfpcbijcjaa
end
section
/-
  The walk of the law AxesBack (layer 6).
-/
set_option linter.unusedSimpArgs false
set_option linter.unusedVariables false
open Go Go.RowKit Sedge
namespace Go.Proofs.Ytcmggfpcbijcjaa
theorem _root_.Sedge.ApartV.symm {u v : Value} (h : ApartV u v) : ApartV v u := fun k h1 h2 => h k h2 h1
theorem iinfo : (Try.prog.info? 3).map (fun i => (i.zero, i.size, i.bytes)) = some (some (Value.int .i64 0), 1, 8) := by kernel_rfl
theorem iund : Try.prog.underlying 30 = some (.slice 3) := by kernel_rfl
theorem _root_.Sedge.OwnI.but {w w' : World} {G : List Nat} {B : Nat} {v : Value} {zs : List Int} (h : OwnI w B v zs) (hb : But w G w') (hne : ∀ k, v.ownBlock = some k → k ∉ G) : OwnI w' B v zs := by
  have hlt := World.ownsRow.lt h
  obtain ⟨h0, h1⟩ := h
  refine ⟨h0, ?_⟩
  rcases h1 with h1 | ⟨gg, cap, cur, rfl, hB, hh, r⟩
  · exact .inl h1
  · exact .inr ⟨gg, cap, cur, rfl, hB, by rw [hb.block gg (hlt gg rfl).2 (hne gg rfl)]; exact hh, r⟩
theorem axL_get {x : VecM} (F : Nat → Nat → Nat) (hx : x.right = true) {i : Nat} (hi : (i : Int) < x.n) : (axL F x).getD (x.place i) 0 = F i (x.num i) := by
  unfold axL VecMwrite VecMwriteTo
  rw [show min x.n.toNat ((List.range x.n.toNat).map fun i => F i (x.num i)).length = x.n.toNat by simp]
  rw [writes_at x.n.toNat (fun a b ha hb e => VecM.place_inj hx (by omega) (by omega) e) (fun a ha => VecM.place_lt hx (by omega)) i (by omega)]
  rw [List.getD_eq_getElem?_getD, List.getElem?_map, List.getElem?_range (by omega)]; rfl
theorem axL_length (F : Nat → Nat → Nat) (x : VecM) : (axL F x).length = x.ws.length := by simp [axL, VecMwrite, VecMwriteTo]
def vec1 (l : List Nat) : VecM := ⟨l, 0, l.length, 1⟩
theorem vec1_place (l : List Nat) (i : Nat) : (vec1 l).place i = i := by simp [vec1, VecM.place]
theorem vec1_num (l : List Nat) (i : Nat) : (vec1 l).num i = l.getD i 0 := by simp [vec1, VecM.num, VecM.place]
theorem vec1_right (l : List Nat) : (vec1 l).right = true := by
  unfold VecM.right fitsB vec1
  simp
  omega
def upTo (ks : List Int) (i : Nat) : List Int := (List.range i).map fun j => ks.getD j 0
def downTo (ks : List Int) (i : Nat) : List Int := (List.range i).map fun j => -ks.getD j 0
theorem upTo_succ (ks : List Int) (i : Nat) : upTo ks (i + 1) = upTo ks i ++ [ks.getD i 0] := by unfold upTo; rw [List.range_succ, List.map_append]; rfl
theorem downTo_succ (ks : List Int) (i : Nat) : downTo ks (i + 1) = downTo ks i ++ [-ks.getD i 0] := by unfold downTo; rw [List.range_succ, List.map_append]; rfl
theorem upTo_length (ks : List Int) (i : Nat) : (upTo ks i).length = i := by simp [upTo]
theorem downTo_length (ks : List Int) (i : Nat) : (downTo ks i).length = i := by simp [downTo]
theorem upTo_get (ks : List Int) {i n : Nat} (h : i < n) : (upTo ks n).getD i 0 = ks.getD i 0 := by
  unfold upTo
  rw [List.getD_eq_getElem?_getD, List.getElem?_map, List.getElem?_range h]; rfl
theorem downTo_get (ks : List Int) {i n : Nat} (h : i < n) : (downTo ks n).getD i 0 = -ks.getD i 0 := by
  unfold downTo
  rw [List.getD_eq_getElem?_getD, List.getElem?_map, List.getElem?_range h]; rfl
def upL (l : List Nat) (ks : List Int) : List Nat := axL (fun i z => fscale z ((upTo ks l.length).getD i 0)) (vec1 l)
def backL (l : List Nat) (ks : List Int) : List Nat := axL (fun i z => fscale z ((downTo ks l.length).getD i 0)) (vec1 (upL l ks))
theorem upL_length (l : List Nat) (ks : List Int) : (upL l ks).length = l.length := axL_length _ _
theorem backL_length (l : List Nat) (ks : List Int) : (backL l ks).length = l.length := (axL_length _ _).trans (upL_length l ks)
theorem upL_get (l : List Nat) (ks : List Int) {i : Nat} (h : i < l.length) : (upL l ks).getD i 0 = fscale (l.getD i 0) (ks.getD i 0) := by
  have := axL_get (x := vec1 l) (fun i z => fscale z ((upTo ks l.length).getD i 0)) (vec1_right l) (i := i) (by show (i : Int) < l.length; omega)
  rw [vec1_place, vec1_num, upTo_get ks h] at this
  exact this
theorem backL_get (l : List Nat) (ks : List Int) {i : Nat} (h : i < l.length) : (backL l ks).getD i 0 = fscale ((upL l ks).getD i 0) (-ks.getD i 0) := by
  have := axL_get (x := vec1 (upL l ks)) (fun i z => fscale z ((downTo ks l.length).getD i 0)) (vec1_right _) (i := i) (by show (i : Int) < (upL l ks).length; rw [upL_length]; omega)
  rw [vec1_place, vec1_num, downTo_get ks h] at this
  exact this
theorem back_law (l : List Nat) (ks : List Int) (hl : ∀ i, i < l.length → IsF (l.getD i 0) (l.getD i 0)) (hk : ∀ i, i < l.length → 0 ≤ ks.getD i 0 ∧ ks.getD i 0 ≤ 255) (hf : finL (upL l ks) = true) : backL l ks = l := by
  apply List.ext_getElem?
  intro i
  by_cases h : i < l.length
  · have e : (backL l ks).getD i 0 = l.getD i 0 := by
      rw [backL_get l ks h]
      rw [upL_get l ks h]
      refine fscale_back (hl i h) (hk i h).1 (hk i h).2 ?_
      rw [← upL_get l ks h]
      unfold finL at hf
      rw [List.all_eq_true] at hf
      refine hf _ ?_
      rw [List.getD_eq_getElem?_getD, List.getElem?_eq_getElem (by rw [upL_length]; exact h)]
      exact List.getElem_mem _
    rw [List.getD_eq_getElem?_getD, List.getD_eq_getElem?_getD, List.getElem?_eq_getElem (by rw [backL_length]; exact h), List.getElem?_eq_getElem h] at e
    rw [List.getElem?_eq_getElem (by rw [backL_length]; exact h), List.getElem?_eq_getElem h]
    simpa using e
  · rw [List.getElem?_eq_none (by rw [backL_length]; omega), List.getElem?_eq_none (by omega)]
end Go.Proofs.Ytcmggfpcbijcjaa
end
section
/-
  Contracts: the reference's digits (layer 2): Whole, Int.
-/
set_option linter.unusedSimpArgs false
set_option linter.unusedVariables false
open Go Go.RowKit Sedge
namespace Go.Proofs.Ytcmggfpcbijcjaa
theorem p64 {c : Nat} (h : c < 4) {m : Nat} (hm : m < 65536 ^ (4 - c)) : m / 65536 < 65536 ^ (4 - (c + 1)) := by
  have e : 4 - c = 4 - (c + 1) + 1 := by omega
  rw [e, Nat.pow_succ] at hm
  exact (Nat.div_lt_iff_lt_mul (by decide)).2 hm
set_option maxRecDepth 100000 in
set_option maxHeartbeats 2000000 in
/-- Whole. -/
theorem whole_any (neg : Bool) (m : Nat) (w : World) (hm : m < 2 ^ 64) :
   Calls Try.prog 119 #[.bool neg, .int .u64 m] w (fun e w' => ∃ v, e = .returned v ∧ DV w' v (dat neg m 0) 0 4 ∧ (∀ k, dBlock v = some k → w.heap.size ≤ k) ∧ ∃ o n, w' = ext w o n) := by
  have hm4 : m < 65536 ^ (4 - 0) := hm
  clear hm
  obtain ⟨q0, hq0⟩ : ∃ q0, Hid (q0 = dat neg m 0) := ⟨_, hid rfl⟩
  rw [← hq0.out]
  have hmade : ∀ L l w', NS w' L l → Dg l → l.length ≤ 4 → dv l = m → Calls Try.prog 120 #[.bool neg, L, .int .i64 0] w' (fun e w2 => ∃ v, e = .returned v ∧ DV w2 v q0 0 4 ∧ (∀ k, dBlock v = some k → L.ownBlock = some k) ∧ ∃ o n, w2 = ext w' o n) := fun L l w' h1 h2 h3 h4 => by
    refine (made_any neg L l 0 w' h1 h2 (by omega) (by omega)).mono fun e w2 hh => ?_
    obtain ⟨v, a1, a2, a4, a3⟩ := hh
    refine ⟨v, a1, ?_, a4, a3⟩
    rw [h4] at a2
    rw [hq0.out]
    exact a2.mono (by omega) (by omega)
  go_enter Try.func119, Try.ntmps119
  go_upto_block 0 with fail
  refine name_any (fun W hW => ?_)
  have g0 : Grew w W := by rw [← hW]; (show Grew _ _; repeat (first | (with_reducible exact Grew.refl _) | (with_reducible assumption) | (with_reducible exact Grew.same_o) | (with_reducible exact Grew.app_o) | (with_reducible refine Grew.ext ?_ _ _) | (with_reducible refine Grew.alloc ?_ _) | ((with_reducible refine Grew.setCell ?_ ?_ _); rotate_left; (focus (dsimp only; first | omega | (simp only [size_ext, World.size_alloc, Array.size_append]; omega)))) | (with_reducible refine Grew.drewN ?_ _) | (with_reducible refine Grew.drew ?_)))
  have s1 : w.heap.size < W.heap.size := by rw [← hW]; simp only [World.size_alloc]; omega
  have f1 : ∀ i, W.frozen? ⟨w.heap.size, i, none⟩ = false := by subst hW; intro i; go_simp
  have b1 : ∀ i, W.cell? ⟨w.heap.size, i, none⟩ = (#[.bool false, .slice none 0 0, .int .i64 0] : Array Value)[i]? := by subst hW; intro i; go_simp
  clear hW
  go_wp2_with fail
  go_loopw [1, 5] (fun c d wx => ∃ (l : List Nat) (M : Nat), c = .int .u64 M ∧ OwnN wx W.heap.size d l ∧ Dg l ∧ l.length ≤ 4 ∧ M < 65536 ^ (4 - l.length) ∧ dv l + 65536 ^ l.length * M = m ∧ ∃ o n, wx = ext W o n) (fun c _ _ => (intOf c).toNat)
  case atStart => exact ⟨[], m, rfl, OwnN.nil _ _, Dg.nil, by simp, hm4, by simp [dv], _, _, ext_zero.symm⟩
  case round =>
    obtain ⟨l, M, rfl, hO, hD, h4, hM, hV, o1, n1, rfl⟩ := hrel
    have HM := hid hM
    have HV := hid hV
    clear hM hV
    by_cases h0 : M = 0
    · subst h0
      have hdv : dv l = m := by have := HV.out; rw [Nat.mul_zero, Nat.add_zero] at this; exact this
      have hns := hO.ns
      go_wp2_with (first | (go_at_call 120; ((with_reducible refine (hmade _ l _ hns hD h4 hdv).mono ?_); rintro e w1 ⟨v, rfl, hv, hbk, o2, n2, rfl⟩; obtain ⟨ng, sa, sn, sc, sE, rfl⟩ := hv.shape)))
      have hbk2 : ∀ k, dBlock (.agg #[.bool ng, .slice sa sn sc, .int .i64 sE]) = some k → W.heap.size ≤ k := fun k hk => hO.block k (hbk k hk)
      rw [ext_ext] at hv
      refine bodyPost_ret (by simp [results, Try.results119, go_sem, *]; rfl) rfl ?_
      exact ⟨_, rfl, hv.ext_set3 s1 (fun k hk => by have := hbk2 k hk; omega) _ _ _, fun k hk => by have := hbk2 k hk; omega, by (show Grew _ _; repeat (first | (with_reducible exact Grew.refl _) | (with_reducible assumption) | (with_reducible exact Grew.same_o) | (with_reducible exact Grew.app_o) | (with_reducible refine Grew.ext ?_ _ _) | (with_reducible refine Grew.alloc ?_ _) | ((with_reducible refine Grew.setCell ?_ ?_ _); rotate_left; (focus (dsimp only; first | omega | (simp only [size_ext, World.size_alloc, Array.size_append]; omega)))) | (with_reducible refine Grew.drewN ?_ _) | (with_reducible refine Grew.drew ?_)))⟩
    · have hlt : l.length < 4 := by
        rcases Nat.lt_or_ge l.length 4 with h | h
        · exact h
        · have := HM.out
          rw [show 4 - l.length = 0 by omega] at this
          simp at this; omega
      go_wp2_with (first | (at_builtin; refine append1_n iund iinfo rfl (W := W) (d := M % 65536) ⟨_, _, rfl⟩ hO ?_ (by omega) _ _ rfl rfl rfl ?_ rfl ?_; (focus omega); (focus (first | rfl | (simp only [size_ext]))); intro va oa na hoa))
      have hm2 := p64 hlt HM.out
      have e1 : IntKind.u64.wrap ((M : Int) / 65536) = ((M / 65536 : Nat) : Int) := by
        have : M < 65536 ^ 4 := Nat.lt_of_lt_of_le HM.out (Nat.pow_le_pow_right (by decide) (by omega))
        rw [IntWalk.u64_in _ (by omega)]; omega
      have hdm := Nat.div_add_mod M 65536
      have hVV : dv (l ++ [M % 65536]) + 65536 ^ (l.length + 1) * (M / 65536) = m := by
        rw [← HV.out, dv_append, Nat.pow_succ]
        show dv l + 65536 ^ l.length * (M % 65536 + 65536 * 0) + _ = _
        rw [Nat.mul_assoc, Nat.add_assoc, ← Nat.mul_add]
        congr 2; omega
      go_roundw
      case rel => exact ⟨l ++ [M % 65536], M / 65536, by rw [e1], hoa, hD.append (Dg.one (Nat.mod_lt _ (by decide))), by simp; omega, by simpa using hm2, by simpa using hVV, _, _, rfl⟩
      case measure => rw [e1]; simp [intOf]; omega
end Go.Proofs.Ytcmggfpcbijcjaa
end
section
/-
  Plain laws on 64-bit floats: what is written is no farther off than any float; sums have no error of their own near 0.
-/
set_option linter.unusedSimpArgs false
set_option linter.unusedVariables false
namespace Sedge
open Ieee

theorem grid_best (m : Nat) (p : Int) (k : Int) : ((keptP m p : Rat) * p2 (lastP m p) - (m : Rat) * p2 p).abs ≤ ((k : Rat) * p2 (lastP m p) - (m : Rat) * p2 p).abs := by
  have h1 := kept_err m p
  have hu := p2_pos (lastP m p)
  have hu1 : 2 * p2 (lastP m p - 1) = p2 (lastP m p) := by rw [← p2_succ]; congr 1; omega
  have hK : ((keptP m p : Nat) : Rat) = ((keptP m p : Int) : Rat) := (Rat.intCast_natCast _).symm
  rw [hK] at h1 ⊢
  generalize p2 (lastP m p - 1) = h at *
  generalize p2 (lastP m p) = u at *
  generalize (m : Rat) * p2 p = Z at *
  generalize (keptP m p : Int) = K at *
  have h2 : -h ≤ (K : Rat) * u - Z ∧ (K : Rat) * u - Z ≤ h := by
    rcases Rat.le_total (a := 0) (b := (K : Rat) * u - Z) with h0 | h0
    · rw [Rat.abs_of_nonneg h0] at h1; constructor <;> grind
    · rw [Rat.abs_of_nonpos h0] at h1; constructor <;> grind
  have hKk : k = K ∨ k + 1 ≤ K ∨ K + 1 ≤ k := by omega
  rcases hKk with rfl | hk | hk
  · exact Rat.le_refl
  · have hk' := Rat.intCast_le_intCast.2 hk
    rw [Rat.intCast_add] at hk'
    have hk2 := Rat.mul_le_mul_of_nonneg_right hk' (Rat.le_of_lt hu)
    have e1 : ((1 : Int) : Rat) = 1 := rfl
    rw [e1] at hk2
    have h3 : (k : Rat) * u - Z ≤ -h := by grind
    have h4 : (k : Rat) * u - Z ≤ 0 := by grind
    rw [Rat.abs_of_nonpos h4]
    exact Rat.le_trans h1 (by grind)
  · have hk' := Rat.intCast_le_intCast.2 hk
    rw [Rat.intCast_add] at hk'
    have hk2 := Rat.mul_le_mul_of_nonneg_right hk' (Rat.le_of_lt hu)
    have e1 : ((1 : Int) : Rat) = 1 := rfl
    rw [e1] at hk2
    have h3 : h ≤ (k : Rat) * u - Z := by grind
    have h4 : 0 ≤ (k : Rat) * u - Z := by grind
    rw [Rat.abs_of_nonneg h4]
    exact Rat.le_trans h1 (by grind)

theorem sgn_sq (s : Bool) : sgn s * sgn s = 1 := by cases s <;> decide +kernel
theorem abs_sgn (s : Bool) (x y : Rat) : (x - sgn s * y).abs = (sgn s * x - y).abs := by
  have : x - sgn s * y = sgn s * (sgn s * x - y) := by
    have := sgn_sq s
    grind
  rw [this, abs_sgn_mul]
theorem abs_le_of {x y : Rat} (h1 : -y ≤ x) (h2 : x ≤ y) : x.abs ≤ y := by
  rcases Rat.le_total (a := 0) (b := x) with h0 | h0
  · rw [Rat.abs_of_nonneg h0]; exact h2
  · rw [Rat.abs_of_nonpos h0]; grind
theorem le_abs (x : Rat) : x ≤ x.abs := by
  rcases Rat.le_total (a := 0) (b := x) with h0 | h0
  · rw [Rat.abs_of_nonneg h0]; exact Rat.le_refl
  · rw [Rat.abs_of_nonpos h0]; grind
theorem neg_le_abs (x : Rat) : -x ≤ x.abs := by
  rcases Rat.le_total (a := 0) (b := x) with h0 | h0
  · rw [Rat.abs_of_nonneg h0]; grind
  · rw [Rat.abs_of_nonpos h0]; exact Rat.le_refl

/-- NO FLOAT IS NEARER. -/
theorem nearest_best (s : Bool) (m : Nat) (p : Int) (h : m ≠ 0) (hf : fin (D64.nearest s m p) = true) {x : Nat} (hx : x < 2 ^ 64) (hfx : fin x = true) :
    (val (D64.nearest s m p) - dat s m p).abs ≤ (val x - dat s m p).abs := by
  rw [(nearest_err s m p h hf).2]
  have e1 : dat s (keptP m p) (lastP m p) - dat s m p = sgn s * ((keptP m p : Rat) * p2 (lastP m p) - (m : Rat) * p2 p) := by unfold dat; grind
  rw [e1, abs_sgn_mul]
  have e2 : dat s m p = sgn s * ((m : Rat) * p2 p) := rfl
  rw [e2, abs_sgn]
  have hk : pKind x = 0 := by
    have := read_eq x hx
    rcases Nat.lt_or_ge 0 (pKind x) with h0 | h0
    · rw [if_neg (by omega)] at this
      obtain ⟨s', m', p', hr⟩ := (fin_iff x).1 hfx
      rw [hr] at this
      split at this <;> cases this
    · omega
  have hr : D64.read x = .number (pNeg x) (pMag x) (pExp x) := by rw [read_eq x hx, if_pos hk]
  have hq := (pExp_ge x hk).1
  have hn := pMag_lt x
  rw [val_of hr]
  generalize pNeg x = t at *
  generalize pMag x = n at *
  generalize pExp x = q at *
  by_cases hqL : lastP m p ≤ q
  · -- on the grid
    have e3 : sgn s * dat t n q = (((if s = t then (1 : Int) else -1) * ((n * 2 ^ (q - lastP m p).toNat : Nat) : Int) : Int) : Rat) * p2 (lastP m p) := by
      have e4 : p2 q = p2 ((q - lastP m p).toNat : Nat) * p2 (lastP m p) := by rw [← p2_add]; congr 1; omega
      unfold dat
      rw [Rat.intCast_mul, Rat.intCast_natCast, Rat.natCast_mul, ← p2_nat, e4]
      have e5 : sgn s * sgn t = (((if s = t then (1 : Int) else -1) : Int) : Rat) := by cases s <;> cases t <;> decide +kernel
      rw [← e5]; grind
    rw [e3]
    exact grid_best m p _
  · have hL : lastP m p = p + m.log2 - 52 := by
      rcases lastP_or m p with h1 | h1
      · exact h1
      · omega
    have hb := grid_best m p ((2 ^ 52 : Nat) : Int)
    refine Rat.le_trans hb ?_
    have hZ : ((2 ^ 52 : Nat) : Rat) * p2 (lastP m p) ≤ (m : Rat) * p2 p := by
      have h3 : p2 (m.log2 : Nat) ≤ (m : Rat) := by rw [p2_nat]; exact Rat.natCast_le_natCast.2 (log2_spec m h).1
      have h4 := Rat.mul_le_mul_of_nonneg_right h3 (Rat.le_of_lt (p2_pos p))
      rw [← p2_nat, ← p2_add]
      rw [← p2_add] at h4
      rw [show ((52 : Nat) : Int) + lastP m p = (m.log2 : Nat) + p by omega]
      exact h4
    have hX : (dat t n q).abs ≤ ((2 ^ 52 : Nat) : Rat) * p2 (lastP m p) := by
      rw [dat_abs, ← p2_nat, ← p2_add]
      have h5 : (n : Rat) ≤ p2 ((53 : Nat) : Int) := by rw [p2_nat]; exact Rat.natCast_le_natCast.2 (Nat.le_of_lt hn)
      have h6 := Rat.mul_le_mul_of_nonneg_right h5 (Rat.le_of_lt (p2_pos q))
      rw [← p2_add] at h6
      exact Rat.le_trans h6 (p2_mono (by omega))
    have hX2 : (sgn s * dat t n q).abs ≤ ((2 ^ 52 : Nat) : Rat) * p2 (lastP m p) := by rw [abs_sgn_mul]; exact hX
    rw [Rat.intCast_natCast]
    have h7 := le_abs (sgn s * dat t n q)
    have h8 := neg_le_abs (sgn s * dat t n q - (m : Rat) * p2 p)
    refine Rat.le_trans (abs_le_of (y := (m : Rat) * p2 p - ((2 ^ 52 : Nat) : Rat) * p2 (lastP m p)) (by grind) (by grind)) ?_
    grind

theorem kept_exact (m : Nat) (p : Int) (h : lastP m p ≤ p) : (keptP m p : Rat) * p2 (lastP m p) = (m : Rat) * p2 p := by
  have h1 := numP_val m p
  have h2 : dropP m p = 0 := by unfold dropP; omega
  have h3 : keptP m p = numP m p := by
    show rne (numP m p) (dropP m p) = _
    rw [h2, rne_zero]
  rw [h3, h1, h2]
  have : ((2 ^ 0 : Nat) : Rat) = 1 := rfl
  rw [this]; grind
/-- What is written, of places that a float may have. -/
theorem write_err' (s : Bool) (m : Nat) (p : Int) (hp : -1074 ≤ p) (hf : fin (D64.write (.number s m p)) = true) :
    (val (D64.write (.number s m p)) - dat s m p).abs ≤ U * (dat s m p).abs := by
  by_cases h : m = 0
  · subst h
    have e : D64.write (.number s 0 p) = D64.word s 0 := by
      show D64.nearest s 0 p = _; unfold Format.nearest; rw [if_pos rfl]
    rw [e, (word_zero s).1, dat_zero]
    decide +kernel
  · have h0 : D64.write (.number s m p) = D64.nearest s m p := rfl
    rw [h0] at hf ⊢
    obtain ⟨h1, h2⟩ := nearest_err s m p h hf
    by_cases hL : lastP m p ≤ p
    · have h3 := kept_exact m p hL
      rw [h2]
      have e1 : dat s (keptP m p) (lastP m p) - dat s m p = 0 := by unfold dat; rw [h3]; grind
      rw [e1]
      have : (0 : Rat).abs = 0 := by decide +kernel
      rw [this]
      exact Rat.mul_nonneg (Rat.le_of_lt U_pos) (by rw [dat_abs]; exact Rat.mul_nonneg Rat.natCast_nonneg (Rat.le_of_lt (p2_pos p)))
    · have hL2 : lastP m p = p + m.log2 - 52 := by
        rcases lastP_or m p with h1 | h1
        · exact h1
        · omega
      refine Rat.le_trans h1 ?_
      rw [dat_abs, hL2]
      have h2 : p2 (p + m.log2 - 52 - 1) = U * (p2 p * p2 (m.log2 : Nat)) := by
        unfold U; rw [← p2_add, ← p2_add]; congr 1; omega
      rw [h2]
      have h3 : p2 (m.log2 : Nat) ≤ (m : Rat) := by rw [p2_nat]; exact Rat.natCast_le_natCast.2 (log2_spec m h).1
      have h4 := Rat.mul_le_mul_of_nonneg_left h3 (Rat.le_of_lt (p2_pos p))
      have h5 := Rat.mul_le_mul_of_nonneg_left h4 (Rat.le_of_lt U_pos)
      grind
theorem sum_val' {s t : Bool} {m n : Nat} {i j : Int} (hi : -1074 ≤ i) (hj : -1074 ≤ j) : ∃ c z b, (Datum.number s m i).sum (.number t n j) = some (.number c z b) ∧ -1074 ≤ b ∧ dat c z b = dat s m i + dat t n j := by
  refine ⟨_, _, _, rfl, ?_, ?_⟩
  · omega
  rw [natAbs_val _ _ (by intro h; simp [h])]
  rw [Rat.intCast_add, Rat.add_mul, signed_val, signed_val]
  congr 2 <;> omega
theorem fin_parts {x : Nat} (hx : x < 2 ^ 64) (hf : fin x = true) : pKind x = 0 ∧ D64.read x = .number (pNeg x) (pMag x) (pExp x) ∧ -1074 ≤ pExp x ∧ pMag x < 2 ^ 53 := by
  have hk : pKind x = 0 := by
    have := read_eq x hx
    rcases Nat.lt_or_ge 0 (pKind x) with h0 | h0
    · rw [if_neg (by omega)] at this
      obtain ⟨s', m', p', hr⟩ := (fin_iff x).1 hf
      rw [hr] at this
      split at this <;> cases this
    · omega
  exact ⟨hk, by rw [read_eq x hx, if_pos hk], (pExp_ge x hk).1, pMag_lt x⟩
theorem fin_kind {x : Nat} (hx : x < 2 ^ 64) : fin x = decide (pKind x = 0) := by
  cases h : fin x
  · symm; rw [decide_eq_false_iff_not]; intro hk
    have : fin x = true := fin_of_read (by rw [read_eq x hx, if_pos hk])
    rw [this] at h; cases h
  · rw [(fin_parts hx h).1]; rfl
theorem val_parts {x : Nat} (hx : x < 2 ^ 64) (hf : pKind x = 0) : val x = dat (pNeg x) (pMag x) (pExp x) := val_of (by rw [read_eq x hx, if_pos hf])
theorem fadd_read' {x y : Nat} (hx : x < 2 ^ 64) (hy : y < 2 ^ 64) (fx : fin x = true) (fy : fin y = true) : ∃ c z b, fadd x y = D64.write (.number c z b) ∧ -1074 ≤ b ∧ dat c z b = val x + val y := by
  obtain ⟨_, rx, px, _⟩ := fin_parts hx fx
  obtain ⟨_, ry, py, _⟩ := fin_parts hy fy
  obtain ⟨c, z, b, h1, h2, h3⟩ := sum_val' (s := pNeg x) (t := pNeg y) (m := pMag x) (n := pMag y) px py
  refine ⟨c, z, b, ?_, h2, ?_⟩
  · unfold fadd Format.add; rw [rx, ry, h1]; rfl
  · rw [h3, val_of rx, val_of ry]
theorem fadd_err' {x y : Nat} (hx : x < 2 ^ 64) (hy : y < 2 ^ 64) (h : fin (fadd x y) = true) : (val (fadd x y) - (val x + val y)).abs ≤ U * (val x + val y).abs := by
  obtain ⟨fx, fy⟩ := fadd_fin h
  obtain ⟨c, z, b, h1, h2, h3⟩ := fadd_read' hx hy fx fy
  rw [h1] at h ⊢
  rw [← h3]
  exact write_err' c z b h2 h
theorem fadd_best {x y f : Nat} (h : fin (fadd x y) = true) (hf : f < 2 ^ 64) (ff : fin f = true) : (val (fadd x y) - (val x + val y)).abs ≤ (val f - (val x + val y)).abs := by
  obtain ⟨fx, fy⟩ := fadd_fin h
  obtain ⟨c, z, b, h1, h2⟩ := fadd_read fx fy
  rw [h1] at h ⊢
  rw [← h2]
  by_cases hz : z = 0
  · subst hz
    have e : D64.write (.number c 0 b) = D64.word c 0 := by
      show D64.nearest c 0 b = _; unfold Format.nearest; rw [if_pos rfl]
    rw [e, (word_zero c).1, dat_zero]
    have : ((0 : Rat) - 0).abs = 0 := by decide +kernel
    rw [this]
    exact Rat.abs_nonneg
  · exact nearest_best c z b hz h hf ff
theorem fsub_read' {x y : Nat} (hx : x < 2 ^ 64) (hy : y < 2 ^ 64) (fx : fin x = true) (fy : fin y = true) : ∃ c z b, fsub x y = D64.write (.number c z b) ∧ -1074 ≤ b ∧ dat c z b = val x - val y := by
  obtain ⟨_, rx, px, _⟩ := fin_parts hx fx
  obtain ⟨_, ry, py, _⟩ := fin_parts hy fy
  obtain ⟨c, z, b, h1, h2, h3⟩ := sum_val' (s := pNeg x) (t := !(pNeg y)) (m := pMag x) (n := pMag y) px py
  refine ⟨c, z, b, ?_, h2, ?_⟩
  · unfold fsub Format.sub; rw [rx, ry]; simp only [Datum.opposite]; rw [h1]; rfl
  · rw [h3, val_of rx, val_of ry, dat_not]; grind
theorem fsub_err' {x y : Nat} (hx : x < 2 ^ 64) (hy : y < 2 ^ 64) (h : fin (fsub x y) = true) : (val (fsub x y) - (val x - val y)).abs ≤ U * (val x - val y).abs := by
  obtain ⟨fx, fy⟩ := fsub_fin h
  obtain ⟨c, z, b, h1, h2, h3⟩ := fsub_read' hx hy fx fy
  rw [h1] at h ⊢
  rw [← h3]
  exact write_err' c z b h2 h
end Sedge
end
section
/-
  Plain: a product added is close.
-/
set_option linter.unusedSimpArgs false
set_option linter.unusedVariables false
namespace Sedge
open Ieee
theorem pow64 : (2 : Nat) ^ D64.width = 2 ^ 64 := by decide +kernel
theorem fmul_lt (x y : Nat) : fmul x y < 2 ^ 64 := by
  unfold fmul
  cases h : D64.mul x y with
  | none => decide
  | some r => rw [← pow64]; exact D64.mul_lt h
theorem fadd_lt (x y : Nat) : fadd x y < 2 ^ 64 := by
  unfold fadd
  cases h : D64.add x y with
  | none => decide
  | some r => rw [← pow64]; exact D64.add_lt h
theorem fsub_lt (x y : Nat) : fsub x y < 2 ^ 64 := by
  unfold fsub
  cases h : D64.sub x y with
  | none => decide
  | some r => rw [← pow64]; exact D64.sub_lt h
theorem fdiv_lt (x y : Nat) : fdiv x y < 2 ^ 64 := by
  unfold fdiv
  cases h : D64.div x y with
  | none => decide
  | some r => rw [← pow64]; exact D64.div_lt h
theorem U_le : U ≤ 1 := by unfold U; decide +kernel
theorem abs_add_le (x y : Rat) : (x + y).abs ≤ x.abs + y.abs := by
  have h1 := le_abs x
  have h2 := le_abs y
  have h3 := neg_le_abs x
  have h4 := neg_le_abs y
  exact abs_le_of (by grind) (by grind)
theorem abs_sub_comm (x y : Rat) : (x - y).abs = (y - x).abs := by
  rw [show x - y = -(y - x) by grind, Rat.abs_neg]
theorem close_law {a x y : Nat} (hy : y < 2 ^ 64) (h : fin (fadd y (fmul a x)) = true) :
    (val (fadd y (fmul a x)) - val a * val x - val y).abs ≤ ((val a * val x).abs + (val y).abs) * p2 (-52) + p2 (-1074) := by
  obtain ⟨fy, fp⟩ := fadd_fin h
  have h1 := fmul_err fp
  have h2 := fadd_err' hy (fmul_lt a x) h
  have h3 := fadd_best h (fmul_lt a x) fp
  have hU := U_pos
  have hU1 := U_le
  have hE := ETA_pos
  have e1 : p2 (-52) = 2 * U := by unfold U; rw [← p2_succ]; rfl
  have e2 : p2 (-1074) = 2 * ETA := by unfold ETA; rw [← p2_succ]; rfl
  rw [e1, e2]
  have e3 : val (fmul a x) - (val y + val (fmul a x)) = -(val y) := by grind
  rw [e3, Rat.abs_neg] at h3
  generalize val (fadd y (fmul a x)) = d at *
  generalize val (fmul a x) = P at *
  generalize val a * val x = A at *
  generalize val y = Y at *
  have t1 := abs_add_le (d - (Y + P)) (P - A)
  have t2 := abs_add_le (Y + A) (P - A)
  have t3 := abs_add_le Y A
  rw [show d - (Y + P) + (P - A) = d - A - Y by grind] at t1
  rw [show Y + A + (P - A) = Y + P by grind] at t2
  have n1 : 0 ≤ A.abs := Rat.abs_nonneg
  have n2 : 0 ≤ Y.abs := Rat.abs_nonneg
  generalize (d - (Y + P)).abs = E2 at *
  generalize (P - A).abs = E1 at *
  generalize (d - A - Y).abs = G at *
  generalize (Y + P).abs = S at *
  generalize (Y + A).abs = T at *
  generalize A.abs = a' at *
  generalize Y.abs = y' at *
  have m1 := Rat.mul_le_mul_of_nonneg_left h1 (Rat.le_of_lt hU)
  rcases Rat.le_total (a := y') (b := U * a') with hc | hc
  · have p0 : 0 ≤ U * y' := Rat.mul_nonneg (Rat.le_of_lt hU) n2
    grind
  · have m2 := Rat.mul_le_mul_of_nonneg_left hc (Rat.le_of_lt hU)
    have m3 := Rat.mul_le_mul_of_nonneg_left (Rat.le_trans t2 (Rat.add_le_add_right.2 t3)) (Rat.le_of_lt hU)
    have m4 := Rat.mul_le_mul_of_nonneg_right hU1 (Rat.le_of_lt hE)
    grind
end Sedge
end
section
/-
  Plain: how far sums of products, made step by step, are from the exact ones.
-/
set_option linter.unusedSimpArgs false
set_option linter.unusedVariables false
namespace Sedge
open Ieee
/-- The exact sum, and the sum without signs. -/
def exS (s0 : Rat) (T : Nat → Rat) : Nat → Rat
  | 0 => s0
  | j + 1 => exS s0 T j + T j
def exB (s0 : Rat) (T : Nat → Rat) : Nat → Rat
  | 0 => s0.abs
  | j + 1 => exB s0 T j + (T j).abs
theorem exB_nonneg (s0 : Rat) (T : Nat → Rat) : ∀ j, 0 ≤ exB s0 T j
  | 0 => Rat.abs_nonneg
  | j + 1 => by
    have h1 := exB_nonneg s0 T j
    have h2 : 0 ≤ (T j).abs := Rat.abs_nonneg
    show 0 ≤ exB s0 T j + (T j).abs
    grind
theorem exS_le (s0 : Rat) (T : Nat → Rat) : ∀ j, (exS s0 T j).abs ≤ exB s0 T j
  | 0 => Rat.le_refl
  | j + 1 => by
    have h1 := exS_le s0 T j
    have h2 := abs_add_le (exS s0 T j) (T j)
    show (exS s0 T j + T j).abs ≤ exB s0 T j + (T j).abs
    grind
theorem exB_mono (s0 : Rat) (T : Nat → Rat) (j : Nat) : exB s0 T j ≤ exB s0 T (j + 1) := by
  have h2 : 0 ≤ (T j).abs := Rat.abs_nonneg
  show exB s0 T j ≤ exB s0 T j + (T j).abs
  grind
theorem U_small : 4096 * U ≤ 1 := by unfold U; decide +kernel
/-- SUMS OF PRODUCTS: the error. -/
theorem sum_err (S P T : Nat → Rat) (n : Nat) (hn : n ≤ 64) (hP : ∀ j, j < n → (P j - T j).abs ≤ U * (T j).abs + ETA) (hS : ∀ j, j < n → (S (j + 1) - (S j + P j)).abs ≤ U * (S j + P j).abs) :
    ∀ j, j ≤ n → (S j - exS (S 0) T j).abs ≤ (j + 1) * (33 / 32) * (U * exB (S 0) T j) + 2 * j * ETA := by
  intro j
  have hU := U_pos
  have hU1 := U_small
  have hE := ETA_pos
  induction j with
  | zero =>
    intro _
    have : S 0 - exS (S 0) T 0 = 0 := by show S 0 - S 0 = 0; grind
    rw [this]
    have h0 : (0 : Rat).abs = 0 := by decide +kernel
    rw [h0]
    have h1 := Rat.mul_nonneg (Rat.le_of_lt hU) (exB_nonneg (S 0) T 0)
    have e0 : ((0 : Nat) : Rat) = 0 := rfl
    rw [e0]
    grind
  | succ j ih =>
    intro hj
    have h1 := ih (by omega)
    have h2 := hP j (by omega)
    have h3 := hS j (by omega)
    have hb := exB_nonneg (S 0) T j
    have hx := exS_le (S 0) T j
    have ej : ((j + 1 : Nat) : Rat) = (j : Rat) + 1 := by rw [Rat.natCast_add]; rfl
    have hj64 : (j : Rat) ≤ 64 := by
      have := Rat.natCast_le_natCast.2 (show j ≤ 64 by omega)
      simpa using this
    have hj0 : (0 : Rat) ≤ (j : Rat) := Rat.natCast_nonneg
    rw [ej]
    show (S (j + 1) - (exS (S 0) T j + T j)).abs ≤ ((j : Rat) + 1 + 1) * (33 / 32) * (U * (exB (S 0) T j + (T j).abs)) + 2 * ((j : Rat) + 1) * ETA
    generalize exB (S 0) T j = B at *
    generalize exS (S 0) T j = X at *
    generalize S (j + 1) = s' at *
    generalize S j = s at *
    generalize P j = p at *
    generalize T j = t at *
    have a1 := abs_add_le (s' - (s + p)) (s - X + (p - t))
    have a2 := abs_add_le (s - X) (p - t)
    have a3 := abs_add_le (X + t) (s - X + (p - t))
    have a4 := abs_add_le X t
    rw [show s' - (s + p) + (s - X + (p - t)) = s' - (X + t) by grind] at a1
    rw [show X + t + (s - X + (p - t)) = s + p by grind] at a3
    have n1 : 0 ≤ t.abs := Rat.abs_nonneg
    generalize (s' - (s + p)).abs = e3 at *
    generalize (s - X + (p - t)).abs = e12 at *
    generalize (s - X).abs = e1 at *
    generalize (p - t).abs = e2 at *
    generalize (s' - (X + t)).abs = G at *
    generalize (s + p).abs = sp at *
    generalize (X + t).abs = xt at *
    generalize X.abs = xa at *
    generalize t.abs = ta at *
    -- e1 <= (j+1) k U B + 2 j ETA ; e2 <= U ta + ETA ; e3 <= U sp ; sp <= B + ta + e12
    have u1 : 0 ≤ U * B := Rat.mul_nonneg (Rat.le_of_lt hU) hb
    have u2 : 0 ≤ U * ta := Rat.mul_nonneg (Rat.le_of_lt hU) n1
    have j1 : (j : Rat) * (U * B) ≤ 64 * (U * B) := Rat.mul_le_mul_of_nonneg_right hj64 u1
    have j2 : (j : Rat) * ETA ≤ 64 * ETA := Rat.mul_le_mul_of_nonneg_right hj64 (Rat.le_of_lt hE)
    have j3 : 0 ≤ (j : Rat) * (U * ta) := Rat.mul_nonneg hj0 u2
    have j4 : 0 ≤ (j : Rat) * ETA := Rat.mul_nonneg hj0 (Rat.le_of_lt hE)
    have j5 : 0 ≤ (j : Rat) * (U * B) := Rat.mul_nonneg hj0 u1
    -- e1 <= 68 U B + 128 ETA
    have k1 : e1 ≤ 68 * (U * B) + 128 * ETA := by grind
    have k2 : U * e1 ≤ U * (68 * (U * B) + 128 * ETA) := Rat.mul_le_mul_of_nonneg_left k1 (Rat.le_of_lt hU)
    have k3 : U * e2 ≤ U * (U * ta + ETA) := Rat.mul_le_mul_of_nonneg_left h2 (Rat.le_of_lt hU)
    have k4 : U * sp ≤ U * (B + ta + (e1 + e2)) := Rat.mul_le_mul_of_nonneg_left (by grind) (Rat.le_of_lt hU)
    have k5 : 4096 * U * (U * B) ≤ 1 * (U * B) := Rat.mul_le_mul_of_nonneg_right hU1 u1
    have k6 : 4096 * U * (U * ta) ≤ 1 * (U * ta) := Rat.mul_le_mul_of_nonneg_right hU1 u2
    have k7 : 4096 * U * ETA ≤ 1 * ETA := Rat.mul_le_mul_of_nonneg_right hU1 (Rat.le_of_lt hE)
    have k8 : U * (68 * (U * B) + 128 * ETA) = 68 * (U * (U * B)) + 128 * (U * ETA) := by grind
    have k9 : U * (U * ta + ETA) = U * (U * ta) + U * ETA := by grind
    have k10 : U * (B + ta + (e1 + e2)) = U * B + U * ta + U * e1 + U * e2 := by grind
    have r1 : ((j : Rat) + 1 + 1) * (33 / 32) * (U * (B + ta)) = 33 / 32 * (j * (U * B)) + 33 / 32 * (j * (U * ta)) + 33 / 16 * (U * B) + 33 / 16 * (U * ta) := by grind
    have r2 : ((j : Rat) + 1) * (33 / 32) * (U * B) = 33 / 32 * (j * (U * B)) + 33 / 32 * (U * B) := by grind
    have r3 : 4096 * U * (U * B) = 4096 * (U * (U * B)) := by grind
    have r4 : 4096 * U * (U * ta) = 4096 * (U * (U * ta)) := by grind
    have r5 : 4096 * U * ETA = 4096 * (U * ETA) := by grind
    have r6 : 2 * ((j : Rat) + 1) * ETA = 2 * (j * ETA) + 2 * ETA := by grind
    have r7 : 2 * (j : Rat) * ETA = 2 * (j * ETA) := by grind
    rw [r1, r6]
    rw [r2, r7] at h1
    rw [r3] at k5
    rw [r4] at k6
    rw [r5] at k7
    rw [k8] at k2
    rw [k9] at k3
    rw [k10] at k4
    generalize (j : Rat) * (U * B) = jUB at *
    generalize (j : Rat) * (U * ta) = jUt at *
    generalize (j : Rat) * ETA = jE at *
    generalize U * (U * B) = UUB at *
    generalize U * (U * ta) = UUt at *
    generalize U * ETA = UE at *
    generalize U * B = UB at *
    generalize U * ta = Ut at *
    generalize U * e1 = Ue1 at *
    generalize U * e2 = Ue2 at *
    generalize U * sp = Usp at *
    clear r1 r2 r3 r4 r5 r6 r7 k8 k9 k10 hU hU1
    grind
end Sedge
end
section
/-
  Plain: the bound of a rest is one.
-/
set_option linter.unusedSimpArgs false
set_option linter.unusedVariables false
namespace Sedge
open Ieee
theorem U_tiny : 1048576 * U ≤ 1 := by unfold U; decide +kernel
/-- A number without its sign. -/
theorem fabs_val {x : Nat} (hx : x < 2 ^ 64) : fin (fabs x) = fin x ∧ (fin x = true → val (fabs x) = (val x).abs) := by
  have hl : fabs x < 2 ^ 64 := Nat.lt_of_le_of_lt (Nat.mod_le _ _) hx
  obtain ⟨h1, h2, h3⟩ := parts_abs x
  refine ⟨by rw [fin_kind hl, fin_kind hx, h1], fun hf => ?_⟩
  have hk := (fin_parts hx hf).1
  rw [val_parts hl (by rw [h1]; exact hk), val_parts hx hk, h2, h3, pNeg_abs, dat_abs]
  unfold dat sgn
  simp
theorem fabs_lt {x : Nat} (hx : x < 2 ^ 64) : fabs x < 2 ^ 64 := Nat.lt_of_le_of_lt (Nat.mod_le _ _) hx
/-- The inequality of the bounds. -/
theorem rest_ineq {n B X E r w gv p q t f : Rat} (hn0 : 0 ≤ n) (hn : n ≤ 16) (hB : 0 ≤ B) (hE : E = (n + 1) * (33 / 32) * (U * B) + 2 * n * ETA) (hX : X.abs ≤ B) (hr : (r - X).abs ≤ E) (hw : (w - B).abs ≤ E)
    (hg : gv = (n + 3) * (2 * U)) (ht : t = (n + 3) * (32 * ETA)) (hp : (p - gv * w).abs ≤ U * (gv * w).abs + ETA) (hq : (q - (r.abs + p)).abs ≤ U * (r.abs + p).abs) (hf : (f - (q + t)).abs ≤ U * (q + t).abs) : r.abs + 2 * E ≤ f := by
  have hU := U_pos
  have hU1 := U_tiny
  have hEt := ETA_pos
  have uB : 0 ≤ U * B := Rat.mul_nonneg (Rat.le_of_lt hU) hB
  have n1 : 0 ≤ n * (U * B) := Rat.mul_nonneg hn0 uB
  have n2 : n * (U * B) ≤ 16 * (U * B) := Rat.mul_le_mul_of_nonneg_right hn uB
  have n3 : 0 ≤ n * ETA := Rat.mul_nonneg hn0 (Rat.le_of_lt hEt)
  have n4 : n * ETA ≤ 16 * ETA := Rat.mul_le_mul_of_nonneg_right hn (Rat.le_of_lt hEt)
  have hE' : E = 33 / 32 * (n * (U * B)) + 33 / 32 * (U * B) + 2 * (n * ETA) := by rw [hE]; grind
  have E0 : 0 ≤ E := by rw [hE']; grind
  have tiny : ∀ x : Rat, 0 ≤ x → 1048576 * (U * x) ≤ x := fun x hx => by
    have := Rat.mul_le_mul_of_nonneg_right hU1 hx
    grind
  have pos : ∀ x : Rat, 0 ≤ x → 0 ≤ U * x := fun x hx => Rat.mul_nonneg (Rat.le_of_lt hU) hx
  have tE := tiny E E0
  have pE := pos E E0
  -- w
  have w1 := le_abs (w - B)
  have w2 := neg_le_abs (w - B)
  have g0 : 0 ≤ gv := by rw [hg]; exact Rat.mul_nonneg (by grind) (by grind)
  have g38 : gv ≤ 38 * U := by
    rw [hg]
    have := Rat.mul_le_mul_of_nonneg_right (show n + 3 ≤ 19 by grind) (show 0 ≤ 2 * U by grind)
    grind
  have gw1 : gv * (B - E) ≤ gv * w := Rat.mul_le_mul_of_nonneg_left (by grind) g0
  have gw2 : gv * w ≤ gv * (B + E) := Rat.mul_le_mul_of_nonneg_left (by grind) g0
  have gE : gv * E ≤ 38 * U * E := Rat.mul_le_mul_of_nonneg_right g38 E0
  have gB : gv * B = 2 * (n * (U * B)) + 6 * (U * B) := by rw [hg]; grind
  have gwL : 2 * (n * (U * B)) + 6 * (U * B) - 38 * (U * E) ≤ gv * w := by grind
  have gwH : gv * w ≤ 38 * (U * B) + 38 * (U * E) := by grind
  have agw : (gv * w).abs ≤ 38 * (U * B) + 38 * (U * E) := abs_le_of (by grind) gwH
  have uagw : U * (gv * w).abs ≤ U * (38 * (U * B) + 38 * (U * E)) := Rat.mul_le_mul_of_nonneg_left agw (Rat.le_of_lt hU)
  have tgw := tiny (38 * (U * B) + 38 * (U * E)) (by grind)
  have p1 := le_abs (p - gv * w)
  have p2' := neg_le_abs (p - gv * w)
  have pab : p.abs ≤ 76 * (U * B) + 76 * (U * E) + ETA := abs_le_of (by grind) (by grind)
  have pa0 : 0 ≤ p.abs := Rat.abs_nonneg
  have ra0 : 0 ≤ r.abs := Rat.abs_nonneg
  have upa := pos p.abs pa0
  have tpa := tiny p.abs pa0
  -- r
  have r1 := abs_add_le X (r - X)
  rw [show X + (r - X) = r by grind] at r1
  have ur : U * r.abs ≤ U * (B + E) := Rat.mul_le_mul_of_nonneg_left (by grind) (Rat.le_of_lt hU)
  have urs : U * (B + E) = U * B + U * E := by grind
  -- q
  have q0 := abs_add_le r.abs p
  rw [Rat.abs_of_nonneg ra0] at q0
  have uq0 : U * (r.abs + p).abs ≤ U * (r.abs + p.abs) := Rat.mul_le_mul_of_nonneg_left q0 (Rat.le_of_lt hU)
  have uqs : U * (r.abs + p.abs) = U * r.abs + U * p.abs := by grind
  have q1 := le_abs (q - (r.abs + p))
  have q2 := neg_le_abs (q - (r.abs + p))
  have qab : q.abs ≤ r.abs + p.abs + (U * r.abs + U * p.abs) := by
    have := le_abs p
    have := neg_le_abs p
    exact abs_le_of (by grind) (by grind)
  have uq : U * q.abs ≤ U * (r.abs + p.abs + (U * r.abs + U * p.abs)) := Rat.mul_le_mul_of_nonneg_left qab (Rat.le_of_lt hU)
  have pur := pos r.abs ra0
  have tq := tiny (U * r.abs + U * p.abs) (by grind)
  have uqss : U * (r.abs + p.abs + (U * r.abs + U * p.abs)) = U * r.abs + U * p.abs + U * (U * r.abs + U * p.abs) := by grind
  -- f
  have t0 : 0 ≤ t := by rw [ht]; exact Rat.mul_nonneg (by grind) (by grind)
  have tt := tiny t t0
  have f1 := neg_le_abs (f - (q + t))
  have f0 := abs_add_le q t
  rw [Rat.abs_of_nonneg t0] at f0
  have uf : U * (q + t).abs ≤ U * (q.abs + t) := Rat.mul_le_mul_of_nonneg_left f0 (Rat.le_of_lt hU)
  have ufs : U * (q.abs + t) = U * q.abs + U * t := by grind
  have ht' : t = 32 * (n * ETA) + 96 * ETA := by rw [ht]; grind
  generalize U * (38 * (U * B) + 38 * (U * E)) = z1 at *
  generalize U * (gv * w).abs = z2 at *
  generalize gv * w = gw at *
  generalize n * (U * B) = nUB at *
  generalize n * ETA = nE at *
  generalize U * B = UB at *
  generalize U * E = UE at *
  generalize U * (U * r.abs + U * p.abs) = z4 at *
  generalize U * r.abs = z5 at *
  generalize U * p.abs = z6 at *
  generalize U * q.abs = z7 at *
  generalize U * (q + t).abs = z8 at *
  generalize U * (r.abs + p).abs = z9 at *
  generalize U * t = z10 at *
  rw [hE']
  clear tiny pos hE hg ht gE gB g38 gw1 gw2
  grind
/-- The values of the constants in the bounds. -/
def cG (n : Nat) : Rat := ((n : Rat) + 3) * p2 (-52)
theorem row_fin {S P : Nat → Nat} {op : Nat → Nat → Nat} (hop : ∀ x y, fin (op x y) = true → fin x = true ∧ fin y = true) {n : Nat} (hS : ∀ j, j < n → S (j + 1) = op (S j) (P j)) (hf : fin (S n) = true) : ∀ j, j ≤ n → fin (S j) = true ∧ (j < n → fin (P j) = true) := by
  have key : ∀ k, k ≤ n → fin (S (n - k)) = true := by
    intro k
    induction k with
    | zero => intro _; exact hf
    | succ k ih =>
      intro hk
      have h1 := ih (by omega)
      have h2 := hS (n - (k + 1)) (by omega)
      rw [show n - (k + 1) + 1 = n - k by omega] at h2
      rw [h2] at h1
      exact (hop _ _ h1).1
  intro j hj
  have h1 := key (n - j) (by omega)
  rw [show n - (n - j) = j by omega] at h1
  refine ⟨h1, fun hlt => ?_⟩
  have h3 := key (n - (j + 1)) (by omega)
  rw [show n - (n - (j + 1)) = j + 1 by omega, hS j hlt] at h3
  exact (hop _ _ h3).2
/-- A row's rest and weight, and how far they are off. -/
theorem rest_err {S W : Nat → Nat} {A X : Nat → Nat} {n : Nat} (hn : n ≤ 64) (hA : ∀ j, A j < 2 ^ 64) (hX : ∀ j, X j < 2 ^ 64) (h0 : S 0 < 2 ^ 64) (hS : ∀ j, j < n → S (j + 1) = fsub (S j) (fmul (A j) (X j)))
    (w0 : W 0 = fabs (S 0)) (hW : ∀ j, j < n → W (j + 1) = fadd (W j) (fmul (fabs (A j)) (fabs (X j)))) (fS : fin (S n) = true) (fW : fin (W n) = true) :
    (val (S n) - exS (val (S 0)) (fun j => -(val (A j) * val (X j))) n).abs ≤ (n + 1) * (33 / 32) * (U * exB (val (S 0)) (fun j => -(val (A j) * val (X j))) n) + 2 * n * ETA ∧
    (val (W n) - exB (val (S 0)) (fun j => -(val (A j) * val (X j))) n).abs ≤ (n + 1) * (33 / 32) * (U * exB (val (S 0)) (fun j => -(val (A j) * val (X j))) n) + 2 * n * ETA := by
  have kS := row_fin (op := fsub) (P := fun j => fmul (A j) (X j)) (fun _ _ => fsub_fin) hS fS
  have kW := row_fin (op := fadd) (P := fun j => fmul (fabs (A j)) (fabs (X j))) (fun _ _ => fadd_fin) hW fW
  have lS : ∀ j, j ≤ n → S j < 2 ^ 64 := fun j hj => by
    cases j with
    | zero => exact h0
    | succ j => rw [hS j (by omega)]; exact fsub_lt _ _
  have lW : ∀ j, j ≤ n → W j < 2 ^ 64 := fun j hj => by
    cases j with
    | zero => rw [w0]; exact fabs_lt h0
    | succ j => rw [hW j (by omega)]; exact fadd_lt _ _
  constructor
  · have := sum_err (fun j => val (S j)) (fun j => -(val (fmul (A j) (X j)))) (fun j => -(val (A j) * val (X j))) n hn ?_ ?_ n (Nat.le_refl _)
    · exact this
    · intro j hj
      have h1 := fmul_err ((kS j (by omega)).2 hj)
      show (-(val (fmul (A j) (X j))) - -(val (A j) * val (X j))).abs ≤ U * (-(val (A j) * val (X j))).abs + ETA
      rw [Rat.abs_neg, show -(val (fmul (A j) (X j))) - -(val (A j) * val (X j)) = -(val (fmul (A j) (X j)) - val (A j) * val (X j)) by grind, Rat.abs_neg]
      exact h1
    · intro j hj
      have h1 := (kS (j + 1) (by omega)).1
      have h2 := hS j hj
      show (val (S (j + 1)) - (val (S j) + -(val (fmul (A j) (X j))))).abs ≤ U * (val (S j) + -(val (fmul (A j) (X j)))).abs
      rw [h2] at h1 ⊢
      have := fsub_err' (lS j (by omega)) (fmul_lt _ _) h1
      rw [show val (S j) + -(val (fmul (A j) (X j))) = val (S j) - val (fmul (A j) (X j)) by grind]
      exact this
  · have f0 := (kS 0 (by omega)).1
    have v0 : val (W 0) = (val (S 0)).abs := by rw [w0]; exact (fabs_val h0).2 f0
    have eB : ∀ k, exS (val (S 0)).abs (fun j => (val (A j) * val (X j)).abs) k = exB (val (S 0)) (fun j => -(val (A j) * val (X j))) k ∧ exB (val (S 0)).abs (fun j => (val (A j) * val (X j)).abs) k = exB (val (S 0)) (fun j => -(val (A j) * val (X j))) k := by
      intro k
      induction k with
      | zero => exact ⟨rfl, Rat.abs_of_nonneg Rat.abs_nonneg⟩
      | succ k ih =>
        have e1 : (-(val (A k) * val (X k))).abs = (val (A k) * val (X k)).abs := Rat.abs_neg
        refine ⟨?_, ?_⟩
        · show exS _ _ k + (val (A k) * val (X k)).abs = exB _ _ k + (-(val (A k) * val (X k))).abs
          rw [ih.1, e1]
        · show exB _ _ k + ((val (A k) * val (X k)).abs).abs = exB _ _ k + (-(val (A k) * val (X k))).abs
          rw [ih.2, e1, Rat.abs_of_nonneg Rat.abs_nonneg]
    have := sum_err (fun j => val (W j)) (fun j => val (fmul (fabs (A j)) (fabs (X j)))) (fun j => (val (A j) * val (X j)).abs) n hn ?_ ?_ n (Nat.le_refl _)
    · have this' : (val (W n) - exS (val (W 0)) (fun j => (val (A j) * val (X j)).abs) n).abs ≤ (n + 1) * (33 / 32) * (U * exB (val (W 0)) (fun j => (val (A j) * val (X j)).abs) n) + 2 * n * ETA := this
      rw [v0, (eB n).1, (eB n).2] at this'
      exact this'
    · intro j hj
      have h1 := (kW j (by omega)).2 hj
      have h2 := fmul_err h1
      obtain ⟨h3, h4⟩ := fmul_fin h1
      rw [(fabs_val (hA j)).1] at h3
      rw [(fabs_val (hX j)).1] at h4
      rw [(fabs_val (hA j)).2 h3, (fabs_val (hX j)).2 h4] at h2
      have e1 : (val (A j)).abs * (val (X j)).abs = (val (A j) * val (X j)).abs := by
        rcases Rat.le_total (a := 0) (b := val (A j)) with p | p <;> rcases Rat.le_total (a := 0) (b := val (X j)) with q | q
        · rw [Rat.abs_of_nonneg p, Rat.abs_of_nonneg q, Rat.abs_of_nonneg (Rat.mul_nonneg p q)]
        · rw [Rat.abs_of_nonneg p, Rat.abs_of_nonpos q, Rat.abs_of_nonpos (by have := Rat.mul_nonneg p (show 0 ≤ -(val (X j)) by grind); grind)]; grind
        · rw [Rat.abs_of_nonpos p, Rat.abs_of_nonneg q, Rat.abs_of_nonpos (by have := Rat.mul_nonneg (show 0 ≤ -(val (A j)) by grind) q; grind)]; grind
        · rw [Rat.abs_of_nonpos p, Rat.abs_of_nonpos q, Rat.abs_of_nonneg (by have := Rat.mul_nonneg (show 0 ≤ -(val (A j)) by grind) (show 0 ≤ -(val (X j)) by grind); grind)]; grind
      rw [e1] at h2
      show (val (fmul (fabs (A j)) (fabs (X j))) - (val (A j) * val (X j)).abs).abs ≤ U * ((val (A j) * val (X j)).abs).abs + ETA
      rw [Rat.abs_of_nonneg (Rat.abs_nonneg (x := val (A j) * val (X j)))] at h2 ⊢
      exact h2
    · intro j hj
      have h1 := (kW (j + 1) (by omega)).1
      have h2 := hW j hj
      show (val (W (j + 1)) - (val (W j) + val (fmul (fabs (A j)) (fabs (X j))))).abs ≤ U * (val (W j) + val (fmul (fabs (A j)) (fabs (X j)))).abs
      rw [h2] at h1 ⊢
      exact fadd_err' (lW j (by omega)) (fmul_lt _ _) h1
/-- THE BOUND: with what both are off, twice. -/
theorem bound_law {S W : Nat → Nat} {A X : Nat → Nat} {n g t : Nat} (hn : n ≤ 16) (hA : ∀ j, A j < 2 ^ 64) (hX : ∀ j, X j < 2 ^ 64) (h0 : S 0 < 2 ^ 64) (hS : ∀ j, j < n → S (j + 1) = fsub (S j) (fmul (A j) (X j)))
    (w0 : W 0 = fabs (S 0)) (hW : ∀ j, j < n → W (j + 1) = fadd (W j) (fmul (fabs (A j)) (fabs (X j)))) (hg : val g = ((n : Rat) + 3) * (2 * U)) (ht : val t = ((n : Rat) + 3) * (32 * ETA)) (htl : t < 2 ^ 64)
    (hf : fin (fadd (fadd (fabs (S n)) (fmul g (W n))) t) = true) :
    (exS (val (S 0)) (fun j => -(val (A j) * val (X j))) n).abs + ((n + 1) * (33 / 32) * (U * exB (val (S 0)) (fun j => -(val (A j) * val (X j))) n) + 2 * n * ETA) ≤ val (fadd (fadd (fabs (S n)) (fmul g (W n))) t) ∧ fin (S n) = true ∧ fin (W n) = true := by
  obtain ⟨f1, f2⟩ := fadd_fin hf
  obtain ⟨f3, f4⟩ := fadd_fin f1
  obtain ⟨f5, f6⟩ := fmul_fin f4
  have hSl : S n < 2 ^ 64 := by
    cases n with
    | zero => exact h0
    | succ n => rw [hS n (by omega)]; exact fsub_lt _ _
  have fS : fin (S n) = true := by rw [← (fabs_val hSl).1]; exact f3
  obtain ⟨e1, e2⟩ := rest_err (by omega) hA hX h0 hS w0 hW fS f6
  have hn0 : (0 : Rat) ≤ n := Rat.natCast_nonneg
  have hn16 : (n : Rat) ≤ 16 := by
    have := Rat.natCast_le_natCast.2 hn
    simpa using this
  have hp := fmul_err f4
  have hq := fadd_err' (fabs_lt hSl) (fmul_lt _ _) f1
  have hff := fadd_err' (fadd_lt _ _) htl hf
  rw [(fabs_val hSl).2 fS] at hq
  rw [ht] at hff
  rw [hg] at hp
  have := rest_ineq hn0 hn16 (exB_nonneg _ _ n) rfl (exS_le _ _ n) e1 e2 rfl rfl hp hq hff
  refine ⟨?_, fS, f6⟩
  have h3 := abs_add_le (val (S n)) (exS (val (S 0)) (fun j => -(val (A j) * val (X j))) n - val (S n))
  rw [abs_sub_comm] at e1
  rw [show val (S n) + (exS (val (S 0)) (fun j => -(val (A j) * val (X j))) n - val (S n)) = exS (val (S 0)) (fun j => -(val (A j) * val (X j))) n by grind] at h3
  grind
end Sedge
end
section
/-
  Plain: quotients.
-/
set_option linter.unusedSimpArgs false
set_option linter.unusedVariables false
namespace Sedge
open Ieee
theorem dat_ne {s : Bool} {m : Nat} {p : Int} (h : dat s m p ≠ 0) : m ≠ 0 := fun h0 => by subst h0; exact h (dat_zero s p)
theorem dat_eq_zero {s : Bool} {m : Nat} {p : Int} (h : dat s m p = 0) : m = 0 := by
  rcases Nat.eq_zero_or_pos m with h0 | h0
  · exact h0
  · exfalso
    have h1 : (dat s m p).abs = (m : Rat) * p2 p := dat_abs s m p
    rw [h] at h1
    have h2 : (0 : Rat).abs = 0 := by decide +kernel
    rw [h2] at h1
    have h3 : (0 : Rat) < m := Rat.natCast_pos.2 h0
    have := Rat.mul_pos h3 (p2_pos p)
    rw [← h1] at this
    exact absurd this (by decide +kernel)
/-- The digits of a quotient. -/
theorem quot_digits {m n more : Nat} (hm : m ≠ 0) (hn : n ≠ 0) (hmore : more = 54 + n.log2 - m.log2) :
    2 ^ 53 * n ≤ m <<< more ∧ ((2 * ((m <<< more) / n) + ((m <<< more) % n != 0).toNat) * n ≤ 2 * (m <<< more) + n) ∧ (2 * (m <<< more) ≤ (2 * ((m <<< more) / n) + ((m <<< more) % n != 0).toNat) * n + n) := by
  have h1 : 2 ^ 53 * n ≤ m <<< more := by
    rw [Nat.shiftLeft_eq]
    have a1 := (log2_spec m hm).1
    have a2 := (log2_spec n hn).2
    have a3 : 2 ^ m.log2 * 2 ^ more ≤ m * 2 ^ more := Nat.mul_le_mul_right _ a1
    rw [← Nat.pow_add] at a3
    have a4 : 2 ^ (54 + n.log2) ≤ 2 ^ (m.log2 + more) := Nat.pow_le_pow_right (by decide) (by omega)
    have a5 : 2 ^ (54 + n.log2) = 2 ^ 53 * 2 ^ (n.log2 + 1) := by rw [← Nat.pow_add]; congr 1; omega
    have a6 : 2 ^ 53 * n ≤ 2 ^ 53 * 2 ^ (n.log2 + 1) := Nat.mul_le_mul_left _ (Nat.le_of_lt a2)
    omega
  refine ⟨h1, ?_⟩
  generalize m <<< more = d at *
  have hd := Nat.div_add_mod d n
  have hr := Nat.mod_lt d (Nat.pos_of_ne_zero hn)
  generalize d / n = q at *
  generalize d % n = r at *
  have e1 : (2 * q + (r != 0).toNat) * n = 2 * (n * q) + (r != 0).toNat * n := by rw [Nat.add_mul, Nat.mul_assoc, Nat.mul_comm q n]
  rw [e1]
  by_cases h0 : r = 0
  · subst h0; simp; omega
  · have : (r != 0) = true := by simpa using h0
    rw [this]; simp; omega
theorem fdiv_read {x y : Nat} (hx : fin x = true) (hy : fin y = true) (hy0 : val y ≠ 0) : ∃ c z b, fdiv x y = D64.write (.number c z b) ∧ (dat c z b * val y - val x).abs ≤ U * (val x).abs := by
  obtain ⟨s, m, i, hx⟩ := (fin_iff x).1 hx
  obtain ⟨t, n, j, hy⟩ := (fin_iff y).1 hy
  rw [val_of hy] at hy0 ⊢
  rw [val_of hx]
  have hn := dat_ne hy0
  refine ⟨s ^^ t, 2 * ((m <<< (54 + n.log2 - m.log2)) / n) + ((m <<< (54 + n.log2 - m.log2)) % n != 0).toNat, i - j - ((54 + n.log2 - m.log2 : Nat) : Int) - 1, ?_, ?_⟩
  · unfold fdiv Format.div; rw [hx, hy]; simp only [Datum.quotient, if_neg hn]; rfl
  by_cases hm : m = 0
  · subst hm
    have e0 : (0 : Nat) <<< (54 + n.log2 - Nat.log2 0) = 0 := by rw [Nat.shiftLeft_eq]; simp
    rw [e0]
    have e1 : 2 * (0 / n) + (0 % n != 0).toNat = 0 := by simp
    rw [e1, dat_zero, dat_zero]
    have : ((0 : Rat) * dat t n j - 0).abs = 0 := by rw [show (0 : Rat) * dat t n j - 0 = 0 by grind]; decide +kernel
    rw [this]
    have h2 : (0 : Rat).abs = 0 := by decide +kernel
    rw [h2]; grind
  obtain ⟨h1, h2, h3⟩ := quot_digits hm hn rfl
  generalize hmo : 54 + n.log2 - m.log2 = more at *
  generalize hq : 2 * (m <<< more / n) + (m <<< more % n != 0).toNat = Q at *
  have hd : m <<< more = m * 2 ^ more := Nat.shiftLeft_eq m more
  rw [hd] at h1 h2 h3
  -- in units of 2^(i - more - 1)
  have e1 : dat (s ^^ t) Q (i - j - more - 1) * dat t n j - dat s m i = sgn s * (((Q * n : Nat) : Rat) - ((2 * (m * 2 ^ more) : Nat) : Rat)) * p2 (i - more - 1) := by
    unfold dat
    rw [sgn_xor]
    have a1 : p2 (i - j - more - 1) * p2 j = p2 (i - more - 1) := by rw [← p2_add]; congr 1; omega
    have a2 : p2 i = 2 * ((2 ^ more : Nat) : Rat) * p2 (i - more - 1) := by
      rw [← p2_nat, ← p2_succ, ← p2_add]; congr 1; omega
    have a3 := sgn_sq t
    rw [a2]
    simp only [Rat.natCast_mul]
    have b1 : ((2 : Nat) : Rat) = 2 := rfl
    rw [b1]
    grind
  rw [e1]
  have h1' := Rat.natCast_le_natCast.2 h1
  have h2' := Rat.natCast_le_natCast.2 h2
  have h3' := Rat.natCast_le_natCast.2 h3
  have e2 : (dat s m i).abs = ((2 * (m * 2 ^ more) : Nat) : Rat) * p2 (i - more - 1) := by
    rw [dat_abs]
    have a2 : p2 i = 2 * ((2 ^ more : Nat) : Rat) * p2 (i - more - 1) := by
      rw [← p2_nat, ← p2_succ, ← p2_add]; congr 1; omega
    rw [a2]
    simp only [Rat.natCast_mul]
    have b1 : ((2 : Nat) : Rat) = 2 := rfl
    rw [b1]
    grind
  rw [e2]
  have hp := p2_pos (i - more - 1)
  rw [Rat.mul_assoc, abs_sgn_mul]
  have e3 : ((2 ^ 53 * n : Nat) : Rat) = p2 53 * (n : Rat) := by rw [Rat.natCast_mul, ← p2_nat]; rfl
  have e4 : p2 53 * U = 1 := by unfold U; exact p2_inv 53
  have hU := U_pos
  have c1 : ((n : Nat) : Rat) ≤ U * ((2 * (m * 2 ^ more) : Nat) : Rat) := by
    rw [e3] at h1'
    have := Rat.mul_le_mul_of_nonneg_left h1' (Rat.le_of_lt hU)
    have e5 : ((2 * (m * 2 ^ more) : Nat) : Rat) = 2 * ((m * 2 ^ more : Nat) : Rat) := by rw [Rat.natCast_mul]; rfl
    rw [e5]
    have p0 : 0 ≤ U * ((m * 2 ^ more : Nat) : Rat) := Rat.mul_nonneg (Rat.le_of_lt hU) Rat.natCast_nonneg
    have : U * (p2 53 * (n : Rat)) = n := by
      have : U * (p2 53 * (n : Rat)) = p2 53 * U * n := by grind
      rw [this, e4]; grind
    grind
  rw [Rat.natCast_add] at h2' h3'
  generalize ((2 * (m * 2 ^ more) : Nat) : Rat) = D at *
  generalize ((Q * n : Nat) : Rat) = R at *
  have k1 := Rat.mul_le_mul_of_nonneg_right (show R - D ≤ U * D by grind) (Rat.le_of_lt hp)
  have k2 := Rat.mul_le_mul_of_nonneg_right (show -(U * D) ≤ R - D by grind) (Rat.le_of_lt hp)
  exact abs_le_of (by grind) (by grind)
theorem abs_mul (x y : Rat) : (x * y).abs = x.abs * y.abs := by
  rcases Rat.le_total (a := 0) (b := x) with p | p <;> rcases Rat.le_total (a := 0) (b := y) with q | q
  · rw [Rat.abs_of_nonneg p, Rat.abs_of_nonneg q, Rat.abs_of_nonneg (Rat.mul_nonneg p q)]
  · rw [Rat.abs_of_nonneg p, Rat.abs_of_nonpos q, Rat.abs_of_nonpos (by have := Rat.mul_nonneg p (show 0 ≤ -y by grind); grind)]; grind
  · rw [Rat.abs_of_nonpos p, Rat.abs_of_nonneg q, Rat.abs_of_nonpos (by have := Rat.mul_nonneg (show 0 ≤ -x by grind) q; grind)]; grind
  · rw [Rat.abs_of_nonpos p, Rat.abs_of_nonpos q, Rat.abs_of_nonneg (by have := Rat.mul_nonneg (show 0 ≤ -x by grind) (show 0 ≤ -y by grind); grind)]; grind
/-- A QUOTIENT, TIMES WHAT DIVIDED. -/
theorem fdiv_err {x y : Nat} (hx : fin x = true) (hy : fin y = true) (hy0 : val y ≠ 0) (h : fin (fdiv x y) = true) : (val (fdiv x y) * val y - val x).abs ≤ 3 * U * (val x).abs + ETA * (val y).abs := by
  obtain ⟨c, z, b, h1, h2⟩ := fdiv_read hx hy hy0
  rw [h1] at h ⊢
  have h3 := write_err c z b h
  generalize val (D64.write (.number c z b)) = q at *
  generalize dat c z b = d at *
  generalize val x = X at *
  generalize val y = Y at *
  have a1 := abs_add_le ((q - d) * Y) (d * Y - X)
  rw [show (q - d) * Y + (d * Y - X) = q * Y - X by grind, abs_mul] at a1
  have y0 : 0 ≤ Y.abs := Rat.abs_nonneg
  have a2 := Rat.mul_le_mul_of_nonneg_right h3 y0
  have a3 := abs_add_le X (d * Y - X)
  rw [show X + (d * Y - X) = d * Y by grind, abs_mul] at a3
  have hU := U_pos
  have hU1 := U_le
  have x0 : 0 ≤ X.abs := Rat.abs_nonneg
  have a4 := Rat.mul_le_mul_of_nonneg_left a3 (Rat.le_of_lt hU)
  have a5 := Rat.mul_le_mul_of_nonneg_left h2 (Rat.le_of_lt hU)
  have ux : 0 ≤ U * X.abs := Rat.mul_nonneg (Rat.le_of_lt hU) x0
  have a6 := Rat.mul_le_mul_of_nonneg_right hU1 ux
  grind
/-- What a quotient that is finite was made of. -/
theorem fdiv_fin {x y : Nat} (h : fin (fdiv x y) = true) : fin x = true := by
  obtain ⟨s, m, p, ho⟩ := fin_getD h (fun d hd => quotient_notnan hd)
  refine (fin_iff _).2 ?_
  revert ho
  cases D64.read x <;> cases D64.read y <;> simp [Datum.quotient]
end Sedge
end
section
/-
  Contracts: the reference's digits (layer 2): Shift.
-/
set_option linter.unusedSimpArgs false
set_option linter.unusedVariables false
open Go Go.RowKit Sedge
namespace Go.Proofs.Ytcmggfpcbijcjaa
theorem emod16 (k : Int) : ∃ r : Nat, k % 16 = r ∧ r < 16 := ⟨(k % 16).toNat, by omega, by omega⟩
set_option maxRecDepth 100000 in
set_option maxHeartbeats 4000000 in
/-- Shift. -/
theorem dshift_any (V : Value) (q : Rat) (lo hi k : Int) (w : World) (hV : DV w V q lo hi) (hlo : -100000 ≤ lo) (hhi : hi ≤ 100000) (hk : -100000 ≤ k ∧ k ≤ 100000) :
   Calls Try.prog 32 #[V, .int .i64 k] w (fun e w' => ∃ v, e = .returned v ∧ DV w' v (q * p2 k) (lo + k / 16) (hi + k / 16 + 1) ∧ (∀ b, dBlock v = some b → w.heap.size ≤ b) ∧ ∃ o n, w' = ext w o n) := by
  obtain ⟨ng, L, E, l, rfl, hN, hD, hq, h0, h1, h2⟩ := hV
  obtain ⟨r, hr, hr16⟩ := emod16 k
  obtain ⟨Q, hQ⟩ : ∃ Q, Q = k / 16 := ⟨_, rfl⟩
  have hkQ : k = 16 * Q + r := by omega
  have hQb : -10000 ≤ Q ∧ Q ≤ 10000 := by omega
  have hEb : -100000 ≤ E ∧ E ≤ 100000 ∧ l.length ≤ 200000 := by
    by_cases hl : l = []
    · subst hl; have := (h1 rfl).1; simp; omega
    · have := h2 hl; omega
  obtain ⟨q0, hq0⟩ : ∃ q0, Hid (q0 = q * p2 k) := ⟨_, hid rfl⟩
  obtain ⟨P, hP⟩ : ∃ P, P = 2 ^ r := ⟨_, rfl⟩
  rw [← hq0.out, ← hQ]
  have hfl : ∀ w', Calls Try.prog 124 #[.int .i64 k] w' (fun e w2 => e = .returned (.tuple #[.int .i64 Q, .int .i64 r]) ∧ w' = w2) := fun w' => by
    have := floor_any k w' (by omega)
    rw [← hQ, hr] at this
    exact this.mono fun e w2 h => ⟨h.1, h.2.symm⟩
  have hpw : ∀ w', Calls Try.prog 125 #[.int .i64 r] w' (fun e w2 => e = .returned (.int .i64 (P : Int)) ∧ w' = w2) := fun w' => by
    rw [hP]; exact (power_any r w' (by omega)).mono fun e w2 h => ⟨h.1, h.2.symm⟩
  have hmade : ∀ L' l' w', NS w' L' l' → Dg l' → l'.length = l.length + 1 → dv l' = dv l * P → Calls Try.prog 120 #[.bool ng, L', .int .i64 (E + Q)] w' (fun e w2 => ∃ v, e = .returned v ∧ DV w2 v q0 (lo + Q) (hi + Q + 1) ∧ (∀ k, dBlock v = some k → L'.ownBlock = some k) ∧ ∃ o n, w2 = ext w' o n) := fun L' l' w' a1 a2 a3 a4 => by
    refine (made_any ng L' l' (E + Q) w' a1 a2 (by omega) (by omega)).mono fun e w2 hh => ?_
    obtain ⟨v, b1, b2, b3, b4⟩ := hh
    refine ⟨v, b1, ?_, b3, b4⟩
    have e1 : dat ng (dv l') (16 * (E + Q)) = q0 := by
      rw [hq0.out, hq, a4, hP, hkQ]
      unfold dat
      rw [Rat.natCast_mul, ← p2_nat, show 16 * (E + Q) = 16 * E + 16 * Q by omega, p2_add, p2_add]
      grind
    rw [e1] at b2
    obtain ⟨ng', L2, E2, l2, c1, c2, c3, c4, c5, c6, c7⟩ := b2
    refine ⟨ng', L2, E2, l2, c1, c2, c3, c4, c5, c6, fun hl2 => ?_⟩
    have c8 := c7 hl2
    by_cases hl : l = []
    · exfalso
      subst hl
      have hd0 : dv l' = 0 := by rw [a4]; simp [dv]
      rw [hd0, dat_zero] at e1
      rw [← e1] at c4
      have := dat_eq_zero c4.symm
      exact hl2 (c5 this)
    · have := h2 hl; omega
  obtain ⟨sa, sc, rfl⟩ := hN.shape
  have Hq := hid hq
  clear hkQ hq h0 h1 h2 hq0 hQ hr
  go_enter Try.func32, Try.ntmps32
  refine seq_stop ?_
  go_wp2
  refine stop_go (fun W hW => ?_)
  have s1 : w.heap.size < W.heap.size := by rw [hW]; simp only [World.size_alloc]; omega
  have b1 : ∀ i, W.cell? ⟨w.heap.size, i, none⟩ = (#[.bool ng, .slice sa l.length sc, .int .i64 E] : Array Value)[i]? := by intro i; rw [hW]; go_simp
  have f1 : ∀ i, W.frozen? ⟨w.heap.size, i, none⟩ = false := by intro i; rw [hW]; go_simp
  have s2 : w.heap.size + 1 < W.heap.size := by rw [hW]; simp only [World.size_alloc]; omega
  have b2 : ∀ i, W.cell? ⟨w.heap.size + 1, i, none⟩ = (#[.bool false, .slice none 0 0, .int .i64 0] : Array Value)[i]? := by intro i; rw [hW]; go_simp
  have f2 : ∀ i, W.frozen? ⟨w.heap.size + 1, i, none⟩ = false := by intro i; rw [hW]; go_simp
  have g0 : Grew w W := by rw [hW]; exact ((Grew.refl _).alloc _).alloc _
  clear hW
  have hNW := hN.grew g0
  have zW := g0.below.size
  go_wp2_with (first | (go_at_call 124; ((with_reducible refine (hfl _).mono ?_); rintro e w1 ⟨rfl, rfl⟩)) | (at_make; refine make_n iund iinfo (Grew.refl W) _ _ rfl rfl (l.length + 1) (by omega) rfl rfl (by omega) ?_; intro oo nn g hg hB))
  refine name_any (fun V hV => ?_)
  have gV : Grew W V := by rw [← hV]; (show Grew _ _; repeat (first | (with_reducible exact Grew.refl _) | (with_reducible assumption) | (with_reducible exact Grew.same_o) | (with_reducible exact Grew.app_o) | (with_reducible refine Grew.ext ?_ _ _) | (with_reducible refine Grew.alloc ?_ _) | ((with_reducible refine Grew.setCell ?_ ?_ _); rotate_left; (focus (dsimp only; first | omega | (simp only [size_ext, World.size_alloc, Array.size_append]; omega)))) | (with_reducible refine Grew.drewN ?_ _) | (with_reducible refine Grew.drew ?_)))
  rw [hV] at hB
  clear hV
  have zV := gV.below.size
  have kgV := hB.lt
  have c1 : ∀ i, V.cell? ⟨w.heap.size, i, none⟩ = (#[.bool ng, .slice sa l.length sc, .int .i64 E] : Array Value)[i]? := fun i => (gV.cell s1).trans (b1 i)
  have c2 : ∀ i, V.cell? ⟨w.heap.size + 1, i, none⟩ = (#[.bool false, .slice none 0 0, .int .i64 0] : Array Value)[i]? := fun i => (gV.cell s2).trans (b2 i)
  have fz : ∀ i, V.frozen? ⟨g, i, none⟩ = false := hB.notFrozen
  have fz2 : ∀ i, V.frozen? ⟨w.heap.size + 1, i, none⟩ = false := fun i => (gV.frozen s2).trans (f2 i)
  have k1 : w.heap.size < V.heap.size := by omega
  have k2 : w.heap.size + 1 < V.heap.size := by omega
  have n1 : w.heap.size ≠ g := by omega
  have n2 : w.heap.size + 1 ≠ g := by omega
  have hNV := hNW.grew gV
  clear b1 b2 f1 f2
  go_loopw [8] (fun c wx => ∃ (i : Nat) (m : List Nat) (o : Array Obj) (n : Nat), i ≤ l.length ∧ c = .int .i64 i ∧ wx = ext (upd V g (ia m)) o n ∧ m.length = l.length + 1 ∧ Dg m ∧ dv m = ds (fun j => l.getD j 0) i * P ∧ m.getD i 0 < P ∧ ∀ j, i < j → m.getD j 0 = 0) (fun c _ => l.length - (intOf c).toNat)
  case atStart =>
    refine ⟨0, List.replicate (l.length + 1) 0, #[], V.drawn, Nat.zero_le _, rfl, by rw [hB.self]; exact ext_zero.symm, by simp, Dg.replicate _, by rw [dv_replicate]; simp [ds], ?_, ?_⟩
    · rw [hP]; simpa using Nat.two_pow_pos r
    · intro j _
      rw [List.getD_eq_getElem?_getD, List.getElem?_replicate]; split <;> rfl
  case round =>
    obtain ⟨i, m, o, n, hi, rfl, rfl, hml, hmD, hmV, hm0, hmz⟩ := hrel
    by_cases hlt : i < l.length
    · obtain ⟨blk, so, rfl, hblk, hcl⟩ := hNW.at.2.2 (by omega)
      have hci := (gV.cell hblk).trans (hcl i hlt)
      have kb : blk < V.heap.size := by omega
      have nb : blk ≠ g := by omega
      obtain ⟨d, hd⟩ : ∃ d, d = l.getD i 0 := ⟨_, rfl⟩
      have hd16 : d < 65536 := by rw [hd]; exact hD.get i
      rw [← hd] at hci
      obtain ⟨T, hT⟩ : ∃ T, T = d * P := ⟨_, rfl⟩
      have hP16 : P ≤ 65536 := by rw [hP]; exact pow_le16 (by omega)
      have hT2 : T ≤ 65536 * 65536 := by rw [hT]; exact Nat.mul_le_mul (by omega) hP16
      have a1 : IntKind.i64.wrap ((d : Int) * (P : Int)) = (T : Int) := by rw [IntWalk.i64_in _ (by rw [← Int.natCast_mul, ← hT]; omega), hT]; simp
      obtain ⟨x, hx⟩ : ∃ x, x = m.getD i 0 := ⟨_, rfl⟩
      have hmi : (upd V g (ia m)).cell? ⟨g, i, none⟩ = some (.int .i64 (x : Int)) := by rw [hB.get (by omega), hx]
      have hmi2 : ∀ v, (upd V g ((ia m).setIfInBounds i v)).cell? ⟨g, i + 1, none⟩ = some (.int .i64 (m.getD (i + 1) 0 : Nat)) := fun v => by rw [hB.cells, Array.getElem?_setIfInBounds, if_neg (by omega), ia_get _ (by omega)]
      have hx16 : x < 65536 := by rw [hx]; exact hmD.get i
      have hst := shift_step (l := m) (i := i) (d := d) (r := r) (by omega) hmD hd16 hr16 (by rw [← hP]; exact hm0) hmz
      have hia : i ≤ 200000 := by omega
      have HST := hid hst
      have HMV := hid hmV
      have HH := hid hml
      have HP := hid hP
      have HD := hid hd
      have HX := hid hx
      have HT := hid hT
      clear hst hmV hm0 hmz hml hP hd hx hT hcl hmD
      have m1 : (T : Int).tmod 65536 = ((T % 65536 : Nat) : Int) := by rw [Int.tmod_eq_emod_of_nonneg (by omega)]; omega
      have m2 : (T : Int).tdiv 65536 = ((T / 65536 : Nat) : Int) := by rw [Int.tdiv_eq_ediv_of_nonneg (by omega)]; omega
      go_wp2
      refine wp_region_R (Grew (ext (upd V g (ia m)) o n)) [] [(0,0), (0,1), (0,2), (0,3), (0,4), (0,5), (1,6), (0,7), (0,8)] (by kernel_rfl) (by kernel_rfl) (fun _ _ _ _ h _ => h) (by first | exact ⟨_, _, ext_drew⟩ | exact ⟨_, _, drew_ext0⟩ | (show Grew _ _; repeat (first | (with_reducible exact Grew.refl _) | (with_reducible assumption) | (with_reducible exact Grew.same_o) | (with_reducible exact Grew.app_o) | (with_reducible refine Grew.ext ?_ _ _) | (with_reducible refine Grew.alloc ?_ _) | ((with_reducible refine Grew.setCell ?_ ?_ _); rotate_left; (focus (dsimp only; first | omega | (simp only [size_ext, World.size_alloc, Array.size_append]; omega)))) | (with_reducible refine Grew.drewN ?_ _) | (with_reducible refine Grew.drew ?_)))) ?_
      go_wp2_with (first | ((with_reducible refine wpR_id ?_); first | (refine wpR_take (v := ?_) rfl rfl ?_ ?_; rotate_left; (focus (rintro w' ⟨o', n', rfl⟩; go_simp; try with_reducible rfl)); simp only [Act.put, List.setIfInBounds_toArray, List.set_cons_zero, List.set_cons_succ]) | (refine wpR_pure (v := ?_) rfl rfl ?_ ?_; rotate_left; (focus (intro w'; go_simp; try with_reducible rfl)); simp only [Act.put, List.setIfInBounds_toArray, List.set_cons_zero, List.set_cons_succ]) | (refine wpR_takeG (v := ?_) rfl rfl rfl rfl rfl ?_ ?_; rotate_left; (focus (rintro w' ⟨o', n', rfl⟩; go_simp; try with_reducible rfl)); simp only [Act.put, List.setIfInBounds_toArray, List.set_cons_zero, List.set_cons_succ]) | (refine wpR_skip rfl rfl rfl rfl rfl rfl ?_; simp only [Act.put, List.setIfInBounds_toArray, List.set_cons_zero, List.set_cons_succ]) | (refine wpR_skipU rfl rfl rfl rfl rfl ?_; simp only [Act.put, List.setIfInBounds_toArray, List.set_cons_zero, List.set_cons_succ]) | (refine wpR_do rfl rfl (fun K hK => ?_)) | (refine wpR_doG rfl rfl rfl rfl rfl (fun K hK => ?_)) | (refine wpR_last rfl rfl (fun K hK => ?_)) | (refine wpR_nil ?_)) | ((with_reducible refine wpR_go ?_ ?_); (focus (show Grew _ _; repeat (first | (with_reducible exact Grew.refl _) | (with_reducible assumption) | (with_reducible exact Grew.same_o) | (with_reducible exact Grew.app_o) | (with_reducible refine Grew.ext ?_ _ _) | (with_reducible refine Grew.alloc ?_ _) | ((with_reducible refine Grew.setCell ?_ ?_ _); rotate_left; (focus (dsimp only; first | omega | (simp only [size_ext, World.size_alloc, Array.size_append]; omega)))) | (with_reducible refine Grew.drewN ?_ _) | (with_reducible refine Grew.drew ?_))))) | ((with_reducible refine upon_id ?_); refine upon_fop rfl (by assumption) (by assumption) ?_; intro rr nn hr) | (go_at_call 125; ((with_reducible refine (hpw _).mono ?_); rintro e w1 ⟨rfl, rfl⟩)))
      go_roundw
      case rel =>
        obtain ⟨q1, q2, q3, q4⟩ := HST.out
        refine ⟨i + 1, (m.set i (x + T % 65536)).set (i + 1) (T / 65536), o, n + 1, by omega, by go_num, ?_, by simp; exact HH.out, ?_, ?_, ?_, ?_⟩
        · rw [← ia_set, ← ia_set]
          simp only [Int.natCast_add, Int.natCast_emod, Int.natCast_ediv]
          rfl
        · rw [HX.out, HT.out, HP.out]; exact q2
        · rw [HX.out, HT.out, HP.out, q1, HMV.out]
          show _ = (ds (fun j => l.getD j 0) i + l.getD i 0 * 65536 ^ i) * 2 ^ r
          rw [← HD.out, Nat.add_mul, HP.out, Nat.mul_right_comm d]
        · rw [HX.out, HT.out, HP.out]; exact q3
        · rw [HX.out, HT.out, HP.out]; exact q4
      case measure => simp [intOf]; omega
    · have e : i = l.length := by omega
      have hdv : dv m = dv l * P := by rw [hmV, e, ds_list]
      have hns : NS (ext (upd V g (ia m)) o n) (.slice (some ⟨g, 0, none⟩) (l.length + 1) (l.length + 1)) m := by
        have h5 := hB.mk' m o n
        have h6 := h5.ns (cap := l.length + 1) (by rw [hml]; exact Nat.le_refl _)
        rw [hml] at h6
        exact h6
      have aQ : IntKind.i64.wrap (E + Q) = E + Q := IntWalk.i64_in _ (by omega)
      have HDV := hid hdv
      have HH := hid hml
      subst e
      clear hdv hmV hm0 hmz hml
      go_wp2_with (first | (go_at_call 120; ((with_reducible refine (hmade _ m _ hns hmD HH.out HDV.out).mono ?_); rintro e w1 ⟨v, rfl, hv, hbk, o2, n2, rfl⟩; obtain ⟨vn, va, vl, vc, vE, rfl⟩ := hv.shape)))
      have hbk2 : ∀ k, dBlock (.agg #[.bool vn, .slice va vl vc, .int .i64 vE]) = some k → k = g := fun k hk => by have := hbk k hk; cases this; rfl
      rw [ext_ext] at hv
      refine bodyPost_ret (by simp [results, Try.results32, go_sem, *]; rfl) rfl ?_
      refine ⟨_, rfl, hv.ext_set3 (by simpa using k2) (fun k hk => by have := hbk2 k hk; omega) _ _ _, fun k hk => by have := hbk2 k hk; omega, ?_⟩
      have gU : Grew w (upd V g (ia m)) := (Grew.trans g0 gV).upd (by omega) _
      have gS : ∀ (X : World) i v, Grew w X → Grew w (X.setCell ⟨w.heap.size + 1, i, none⟩ v) := fun X i v h => h.setCell (by show w.heap.size ≤ w.heap.size + 1; omega) v
      exact (gS _ _ _ (gS _ _ _ (gS _ _ _ gU))).ext _ _
end Go.Proofs.Ytcmggfpcbijcjaa
end
section
/-
  Plain: the backward error of a row is one.
-/
set_option linter.unusedSimpArgs false
set_option linter.unusedVariables false
namespace Sedge
open Ieee
/-! Words that are not below 0. -/
def nnD : Datum → Prop
  | .number s m _ => s = false ∨ m = 0
  | .infinity s => s = false
  | .nan .. => True
def nn (x : Nat) : Prop := nnD (D64.read x)
theorem nn_word (s : Bool) (n : Nat) (hn : n ≤ IR) (h : s = false ∨ n = 0) : nn (D64.word s n) := by
  unfold nn
  have hI : IR < SW := by decide +kernel
  rw [read_word s n (by omega)]
  split
  · rcases h with h | h
    · exact .inl h
    · exact .inr h
  · rename_i h1
    have hs : s = false := by
      rcases h with h | h
      · exact h
      · subst h; exact absurd (show 0 < BN by decide +kernel) h1
    split
    · exact .inl hs
    · split
      · exact hs
      · trivial
theorem nn_write (d : Datum) (h : nnD d) (hn : d.isNaN = false) : nn (D64.write d) := by
  cases d with
  | number s m p =>
    show nn (D64.nearest s m p)
    by_cases h0 : m = 0
    · subst h0
      have e : D64.nearest s 0 p = D64.word s 0 := by unfold Format.nearest; rw [if_pos rfl]
      rw [e]; exact nn_word s 0 (Nat.zero_le _) (.inr rfl)
    · rw [nearest_eq s m p h0]
      refine nn_word s _ (Nat.min_le_right _ _) (.inl ?_)
      rcases h with h | h
      · exact h
      · exact absurd h h0
  | infinity s =>
    have e : D64.write (.infinity s) = D64.word s IR := by cases s <;> decide +kernel
    rw [e]; exact nn_word s IR (Nat.le_refl _) (.inl h)
  | nan s t => cases hn
theorem nn_QN : nn QN := by
  unfold nn
  have : (D64.read QN).isNaN = true := isNan_QN
  revert this
  cases D64.read QN <;> simp [Datum.isNaN, nnD]
theorem nn_op {o : Option Datum} (h : ∀ d, o = some d → nnD d) (hn : ∀ d, o = some d → d.isNaN = false) : nn ((o.map D64.write).getD QN) := by
  cases o with
  | none => exact nn_QN
  | some d => exact nn_write d (h d rfl) (hn d rfl)
theorem nn_signed {s : Bool} {m k : Nat} (h : s = false ∨ m = 0) : 0 ≤ signed s m k := by
  unfold signed
  rcases h with h | h
  · subst h; simp only [Bool.false_eq_true, if_false]; exact Int.natCast_nonneg _
  · subst h; simp [Nat.shiftLeft_eq]
theorem nn_fadd {x y : Nat} (hx : nn x) (hy : nn y) : nn (fadd x y) := by
  refine nn_op (fun d hd => ?_) (fun d hd => sum_notnan hd)
  unfold nn at hx hy
  revert hd hx hy
  cases D64.read x <;> cases D64.read y <;> simp only [Datum.sum, nnD]
  · rename_i s m i t n j
    intro h1 h2 h3
    cases h3
    have a1 := nn_signed (k := (i - min i j).toNat) h1
    have a2 := nn_signed (k := (j - min i j).toNat) h2
    rcases Int.lt_or_le 0 (signed s m (i - min i j).toNat + signed t n (j - min i j).toNat) with h | h
    · left
      simp only [show ¬ (signed s m (i - min i j).toNat + signed t n (j - min i j).toNat = 0) by omega, if_false]
      simp; omega
    · right; omega
  all_goals first | (intro h1 h2 h3; cases h3; first | exact h1 | exact h2) | (intro h1 h2 h3; split at h3 <;> cases h3; first | exact h1 | exact h2) | (intro h1 h2 h3; cases h3)
theorem nn_fmul {x y : Nat} (hx : nn x) (hy : nn y) : nn (fmul x y) := by
  refine nn_op (fun d hd => ?_) (fun d hd => product_notnan hd)
  unfold nn at hx hy
  revert hd hx hy
  cases D64.read x <;> cases D64.read y <;> simp only [Datum.product, nnD]
  · intro h1 h2 h3
    cases h3
    rcases h1 with rfl | rfl
    · rcases h2 with rfl | rfl
      · left; rfl
      · right; simp
    · right; simp
  all_goals first | (intro h1 h2 h3; cases h3; done) | (intro h1 h2 h3; cases h3; simp_all; done) | (intro h1 h2 h3; split at h3 <;> cases h3; simp_all [nnD])
theorem nn_fdiv {x y : Nat} (hx : nn x) (hy : nn y) (h0 : ∀ s p, D64.read y ≠ .number s 0 p) : nn (fdiv x y) := by
  refine nn_op (fun d hd => ?_) (fun d hd => quotient_notnan hd)
  unfold nn at hx hy
  revert hd hx hy h0
  cases D64.read x <;> cases D64.read y <;> simp only [Datum.quotient, nnD]
  · rename_i s m i t n j
    intro h1 h2 h0 h3
    by_cases hn : n = 0
    · subst hn; exact absurd rfl (h0 t j)
    · rw [if_neg hn] at h3
      cases h3
      have ht : t = false := by
        rcases h2 with h2 | h2
        · exact h2
        · exact absurd h2 hn
      subst ht
      rcases h1 with rfl | rfl
      · left; rfl
      · right; simp [Nat.shiftLeft_eq]
  · intro h1 h2 h0 h3
    cases h3
    exact .inr rfl
  case infinity.number s t n j =>
    intro h1 h2 h0 h3
    cases h3
    subst h1
    rcases h2 with rfl | rfl
    · show (false ^^ false) = false
      rfl
    · exact absurd rfl (h0 t j)
  all_goals (intro h1 h2 h0 h3; cases h3)
theorem nn_fabs {x : Nat} (hx : x < 2 ^ 64) : nn (fabs x) := by
  unfold nn
  rw [read_eq _ (fabs_lt hx), pNeg_abs]
  split
  · exact .inl rfl
  · split
    · rfl
    · trivial
theorem nn_val {x : Nat} (h : nn x) (hf : fin x = true) : 0 ≤ val x := by
  obtain ⟨s, m, p, hr⟩ := (fin_iff x).1 hf
  unfold nn at h
  rw [hr] at h
  rw [val_of hr]
  rcases h with rfl | rfl
  · unfold dat sgn
    have := Rat.mul_nonneg (Rat.natCast_nonneg (a := m)) (Rat.le_of_lt (p2_pos p))
    simp; exact this
  · rw [dat_zero]; exact Rat.le_refl
/-- How finite numbers are ordered. -/
theorem order_val {x y : Nat} (hx : fin x = true) (hy : fin y = true) : (fgt x y = true ↔ val y < val x) ∧ (feq x y = true ↔ val x = val y) ∧ (flt x y = true ↔ val x < val y) := by
  obtain ⟨s, m, i, hx⟩ := (fin_iff x).1 hx
  obtain ⟨t, n, j, hy⟩ := (fin_iff y).1 hy
  have h1 := signed_val s m (i - min i j).toNat (min i j)
  have h2 := signed_val t n (j - min i j).toNat (min i j)
  rw [show min i j + ((i - min i j).toNat : Int) = i by omega] at h1
  rw [show min i j + ((j - min i j).toNat : Int) = j by omega] at h2
  have e : D64.order x y = some (compare (signed s m (i - min i j).toNat) (signed t n (j - min i j).toNat)) := by
    unfold Format.order; rw [hx, hy]; rfl
  rw [val_of hx, val_of hy, ← h1, ← h2]
  unfold fgt feq flt
  rw [e]
  generalize signed s m (i - min i j).toNat = a
  generalize signed t n (j - min i j).toNat = b
  have hp := p2_pos (min i j)
  generalize p2 (min i j) = g at *
  have key : ∀ c d : Int, c < d → (c : Rat) * g < (d : Rat) * g := fun c d h => Rat.mul_lt_mul_of_pos_right (Rat.intCast_lt_intCast.2 h) hp
  have irr : ∀ r : Rat, ¬ r < r := fun r => Rat.lt_irrefl
  rw [some_beq, some_beq, some_beq, cmp_gt, cmp_eq, cmp_lt]
  simp only [decide_eq_true_eq]
  rcases Int.lt_trichotomy a b with h | h | h
  · have := key a b h
    refine ⟨⟨fun h' => by omega, fun h' => by grind⟩, ⟨fun h' => by omega, fun h' => by grind⟩, ⟨fun _ => this, fun _ => h⟩⟩
  · subst h
    refine ⟨⟨fun h' => by omega, fun h' => absurd h' (irr _)⟩, ⟨fun _ => rfl, fun _ => rfl⟩, ⟨fun h' => by omega, fun h' => absurd h' (irr _)⟩⟩
  · have := key b a h
    refine ⟨⟨fun _ => this, fun _ => h⟩, ⟨fun h' => by omega, fun h' => by grind⟩, ⟨fun h' => by omega, fun h' => by grind⟩⟩
theorem back_ineq {B X E F w ρ q1 qv : Rat} (hB : 0 ≤ B) (hXE : X.abs + E ≤ F) (hEU : U * B ≤ E) (hw : (w - B).abs ≤ E) (w0 : 0 < w) (r0 : 0 ≤ ρ) (hr : (ρ * w - F).abs ≤ 3 * U * F.abs + ETA * w.abs)
    (h1 : (q1 - ρ * (8 * U)).abs ≤ U * (ρ * (8 * U)).abs + ETA) (hq : (qv - (ρ + q1)).abs ≤ U * (ρ + q1).abs) (q0 : 0 ≤ qv) (hle : qv ≤ 1) (hq1 : 0 ≤ q1) : X.abs ≤ qv * B := by
  have hU := U_pos
  have hU1 := U_tiny
  have hEt := ETA_pos
  have uB : 0 ≤ U * B := Rat.mul_nonneg (Rat.le_of_lt hU) hB
  have E0 : 0 ≤ E := Rat.le_trans uB hEU
  have X0 : 0 ≤ X.abs := Rat.abs_nonneg
  have F0 : 0 ≤ F := by grind
  have w0' := Rat.le_of_lt w0
  rw [Rat.abs_of_nonneg F0, Rat.abs_of_nonneg w0'] at hr
  have tiny : ∀ x : Rat, 0 ≤ x → 1048576 * (U * x) ≤ x := fun x hx => by
    have := Rat.mul_le_mul_of_nonneg_right hU1 hx
    grind
  have pos : ∀ x : Rat, 0 ≤ x → 0 ≤ U * x := fun x hx => Rat.mul_nonneg (Rat.le_of_lt hU) hx
  have ur := pos ρ r0
  have uur := pos _ ur
  have tur := tiny _ ur
  have tr := tiny ρ r0
  have e1 : ρ * (8 * U) = 8 * (U * ρ) := by grind
  rw [e1, Rat.abs_of_nonneg (show 0 ≤ 8 * (U * ρ) by grind)] at h1
  have a1 := neg_le_abs (q1 - 8 * (U * ρ))
  have a1' := le_abs (q1 - 8 * (U * ρ))
  have e2 : U * (8 * (U * ρ)) = 8 * (U * (U * ρ)) := by grind
  rw [Rat.abs_of_nonneg (show 0 ≤ ρ + q1 by grind)] at hq
  have a2 := neg_le_abs (qv - (ρ + q1))
  have e3 : U * (ρ + q1) = U * ρ + U * q1 := by grind
  have uq1 : U * q1 ≤ U * (9 * (U * ρ) + ETA) := Rat.mul_le_mul_of_nonneg_left (by grind) (Rat.le_of_lt hU)
  have e4 : U * (9 * (U * ρ) + ETA) = 9 * (U * (U * ρ)) + U * ETA := by grind
  have tE := tiny ETA (Rat.le_of_lt hEt)
  -- qv >= rho (1 + 6U) - 2 ETA
  have k1 : ρ + 6 * (U * ρ) - 2 * ETA ≤ qv := by grind
  -- times w
  have k2 := Rat.mul_le_mul_of_nonneg_right k1 w0'
  have a3 := neg_le_abs (ρ * w - F)
  have e5 : (ρ + 6 * (U * ρ) - 2 * ETA) * w = ρ * w + 6 * (U * (ρ * w)) - 2 * (ETA * w) := by grind
  have k3 : F - 3 * (U * F) - ETA * w ≤ ρ * w := by grind
  have k4 : U * (F - 3 * (U * F) - ETA * w) ≤ U * (ρ * w) := Rat.mul_le_mul_of_nonneg_left k3 (Rat.le_of_lt hU)
  have e6 : U * (F - 3 * (U * F) - ETA * w) = U * F - 3 * (U * (U * F)) - U * (ETA * w) := by grind
  have uF := pos F F0
  have tuF := tiny _ uF
  have ew : 0 ≤ ETA * w := Rat.mul_nonneg (Rat.le_of_lt hEt) w0'
  have tew := tiny _ ew
  have k5 : F + 2 * (U * F) - 4 * (ETA * w) ≤ qv * w := by grind
  -- U F covers ETA w
  have b1 := le_abs (w - B)
  have uw : U * w ≤ U * (B + E) := Rat.mul_le_mul_of_nonneg_left (by grind) (Rat.le_of_lt hU)
  have e7 : U * (B + E) = U * B + U * E := by grind
  have tEE := tiny E E0
  have c1 : U * w ≤ 2 * F := by grind
  have c2 : U * (U * w) ≤ U * (2 * F) := Rat.mul_le_mul_of_nonneg_left c1 (Rat.le_of_lt hU)
  have c3 : 4 * ETA ≤ U * U := by unfold ETA U; decide +kernel
  have c4 := Rat.mul_le_mul_of_nonneg_right c3 w0'
  have e8 : U * U * w = U * (U * w) := by grind
  have e9 : U * (2 * F) = 2 * (U * F) := by grind
  have k6 : F ≤ qv * w := by grind
  -- B >= w - E
  have d1 : w - E ≤ B := by grind
  have d2 := Rat.mul_le_mul_of_nonneg_left d1 q0
  have d3 := Rat.mul_le_mul_of_nonneg_right hle E0
  have e10 : qv * (w - E) = qv * w - qv * E := by grind
  grind
/-- THE BACKWARD ERROR OF A ROW. -/
theorem back_law {S W : Nat → Nat} {A X : Nat → Nat} {n g t tw : Nat} (hn : n ≤ 16) (hA : ∀ j, A j < 2 ^ 64) (hX : ∀ j, X j < 2 ^ 64) (h0 : S 0 < 2 ^ 64) (hS : ∀ j, j < n → S (j + 1) = fsub (S j) (fmul (A j) (X j)))
    (w0 : W 0 = fabs (S 0)) (hW : ∀ j, j < n → W (j + 1) = fadd (W j) (fmul (fabs (A j)) (fabs (X j)))) (hg : val g = ((n : Rat) + 3) * (2 * U)) (ht : val t = ((n : Rat) + 3) * (32 * ETA)) (htl : t < 2 ^ 64) (ng : nn g) (nt : nn t)
    (htw : val tw = 8 * U) (ntw : nn tw) (hnz : feq (W n) 0 = false) {f Q q : Nat} (hf : f = fadd (fadd (fabs (S n)) (fmul g (W n))) t) (hQ : Q = fadd (fdiv f (W n)) (fmul (fdiv f (W n)) tw))
    (hq : q = if fgt Q 4607182418800017408 = true then 4607182418800017408 else Q) (hnan : isNan q = false) :
    fin q = true ∧ 0 ≤ val q ∧ val q ≤ 1 ∧ ∀ v, val q ≤ v → (exS (val (S 0)) (fun j => -(val (A j) * val (X j))) n).abs ≤ v * exB (val (S 0)) (fun j => -(val (A j) * val (X j))) n := by
  have hB := exB_nonneg (val (S 0)) (fun j => -(val (A j) * val (X j))) n
  have hXB := exS_le (val (S 0)) (fun j => -(val (A j) * val (X j))) n
  have f1 : fin 4607182418800017408 = true := by decide +kernel
  have v1 : val 4607182418800017408 = 1 := by decide +kernel
  have f0 : fin 0 = true := by decide +kernel
  have v0 : val 0 = 0 := by decide +kernel
  have fin1 : ∀ v, val q ≤ v → q = 4607182418800017408 → (exS (val (S 0)) (fun j => -(val (A j) * val (X j))) n).abs ≤ v * exB (val (S 0)) (fun j => -(val (A j) * val (X j))) n := fun v hv e => by
    rw [e, v1] at hv
    have := Rat.mul_le_mul_of_nonneg_right hv hB
    grind
  -- not below 0
  have nW : ∀ j, j ≤ n → nn (W j) := fun j => by
    induction j with
    | zero => intro _; rw [w0]; exact nn_fabs h0
    | succ j ih => intro hj; rw [hW j (by omega)]; exact nn_fadd (ih (by omega)) (nn_fmul (nn_fabs (hA j)) (nn_fabs (hX j)))
  have hSl : S n < 2 ^ 64 := by
    cases n with
    | zero => exact h0
    | succ n => rw [hS n (by omega)]; exact fsub_lt _ _
  have nf : nn f := by rw [hf]; exact nn_fadd (nn_fadd (nn_fabs hSl) (nn_fmul ng (nW n (Nat.le_refl _)))) nt
  have wz : ∀ s p, D64.read (W n) ≠ .number s 0 p := fun s p hr => by
    have h2 : fin (W n) = true := fin_of_read hr
    have h3 : feq (W n) 0 = true := (order_val h2 f0).2.1.2 (by rw [val_of hr, dat_zero, v0])
    rw [h3] at hnz; cases hnz
  have nq : nn (fdiv f (W n)) := nn_fdiv nf (nW n (Nat.le_refl _)) wz
  have nQ : nn Q := by rw [hQ]; exact nn_fadd nq (nn_fmul nq ntw)
  by_cases hgt : fgt Q 4607182418800017408 = true
  · rw [if_pos hgt] at hq
    refine ⟨by rw [hq]; exact f1, by rw [hq, v1]; decide +kernel, by rw [hq, v1]; exact Rat.le_refl, fun v hv => fin1 v hv hq⟩
  · rw [if_neg hgt] at hq
    subst hq
    have hfq : fin q = true := by
      rcases read_number_or q with ⟨s, m, p, h⟩ | ⟨s, h⟩ | ⟨s, t, h⟩
      · exact fin_of_read h
      · exfalso
        unfold nn at nQ
        rw [h] at nQ
        cases nQ
        refine hgt ?_
        unfold fgt Format.order
        rw [h]
        have : D64.read 4607182418800017408 = .number false 4503599627370496 (-52) := read_one
        rw [this]
        rfl
      · exfalso
        unfold isNan at hnan
        rw [h] at hnan
        cases hnan
    have hle : val q ≤ 1 := by
      have := (order_val hfq f1).1
      rw [v1] at this
      rcases Rat.le_total (a := val q) (b := 1) with h | h
      · exact h
      · by_cases h2 : (1 : Rat) < val q
        · exact absurd (this.2 h2) hgt
        · grind
    have hq0 : 0 ≤ val q := nn_val nQ hfq
    refine ⟨hfq, hq0, hle, fun v hv => ?_⟩
    rw [hQ] at hfq
    obtain ⟨p1, p2'⟩ := fadd_fin hfq
    have ff := fdiv_fin p1
    rw [hf] at ff
    obtain ⟨b1, b2, b3⟩ := bound_law hn hA hX h0 hS w0 hW hg ht htl ff
    obtain ⟨c1, c2⟩ := rest_err (by omega) hA hX h0 hS w0 hW b2 b3
    rw [← hf] at b1 ff
    have hwn : val (W n) ≠ 0 := fun h => by
      have h3 : feq (W n) 0 = true := (order_val b3 f0).2.1.2 (by rw [h, v0])
      rw [h3] at hnz; cases hnz
    have hw0 : 0 ≤ val (W n) := nn_val (nW n (Nat.le_refl _)) b3
    have hwp : 0 < val (W n) := by grind
    have d1 := fdiv_err ff b3 hwn p1
    have d2 := fmul_err p2'
    have d3 := fadd_err' (fdiv_lt _ _) (fmul_lt _ _) hfq
    rw [htw] at d2
    rw [← hQ] at d3
    have hU := U_pos
    have hEt := ETA_pos
    have hn0 : (0 : Rat) ≤ n := Rat.natCast_nonneg
    have uB := Rat.mul_nonneg (Rat.le_of_lt hU) hB
    have hEU : U * exB (val (S 0)) (fun j => -(val (A j) * val (X j))) n ≤ (n + 1) * (33 / 32) * (U * exB (val (S 0)) (fun j => -(val (A j) * val (X j))) n) + 2 * n * ETA := by
      have h1 := Rat.mul_nonneg hn0 uB
      have h2 := Rat.mul_nonneg hn0 (Rat.le_of_lt hEt)
      grind
    have := back_ineq hB b1 hEU c2 hwp (nn_val nq p1) d1 d2 d3 hq0 hle (nn_val (nn_fmul nq ntw) p2')
    have h2 := Rat.mul_le_mul_of_nonneg_right hv hB
    grind
end Sedge
end
