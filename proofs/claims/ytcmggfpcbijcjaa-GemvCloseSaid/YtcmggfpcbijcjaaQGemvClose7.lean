/-
  Texts laid one behind the other (a claim has at most 60 files): Dy3, FltDiv, Dy4, FltBack, Dy5, Dy6, Dy7, Dig2.
-/
import Derived.Test.YtcmggfpcbijcjaaQGemvClose1
import Derived.Test.YtcmggfpcbijcjaaQGemvClose2
import Derived.Test.YtcmggfpcbijcjaaQGemvClose3
import Derived.Test.YtcmggfpcbijcjaaQGemvClose4
import Derived.Test.YtcmggfpcbijcjaaQGemvClose5
import Derived.Test.YtcmggfpcbijcjaaQGemvClose6
section
/-
  Contracts: the reference's digits (layer 2): Whole, Int.
-/
set_option linter.unusedSimpArgs false
set_option linter.unusedVariables false
open Go Go.RowKit Sedge
namespace Go.Proofs.Ytcmggfpcbijcjaa
theorem p64 {c : Nat} (h : c < 4) {m : Nat} (hm : m < 65536 ^ (4 - c)) : m / 65536 < 65536 ^ (4 - (c + 1)) := by
  have e : 4 - c = 4 - (c + 1) + 1 := by omega
  rw [e, Nat.pow_succ] at hm
  exact (Nat.div_lt_iff_lt_mul (by decide)).2 hm
set_option maxRecDepth 100000 in
set_option maxHeartbeats 2000000 in
/-- Whole. -/
theorem whole_any (neg : Bool) (m : Nat) (w : World) (hm : m < 2 ^ 64) :
   Calls Try.prog 119 #[.bool neg, .int .u64 m] w (fun e w' => ∃ v, e = .returned v ∧ DV w' v (dat neg m 0) 0 4 ∧ (∀ k, dBlock v = some k → w.heap.size ≤ k) ∧ ∃ o n, w' = ext w o n) := by
  have hm4 : m < 65536 ^ (4 - 0) := hm
  clear hm
  obtain ⟨q0, hq0⟩ : ∃ q0, Hid (q0 = dat neg m 0) := ⟨_, hid rfl⟩
  rw [← hq0.out]
  have hmade : ∀ L l w', NS w' L l → Dg l → l.length ≤ 4 → dv l = m → Calls Try.prog 120 #[.bool neg, L, .int .i64 0] w' (fun e w2 => ∃ v, e = .returned v ∧ DV w2 v q0 0 4 ∧ (∀ k, dBlock v = some k → L.ownBlock = some k) ∧ ∃ o n, w2 = ext w' o n) := fun L l w' h1 h2 h3 h4 => by
    refine (made_any neg L l 0 w' h1 h2 (by omega) (by omega)).mono fun e w2 hh => ?_
    obtain ⟨v, a1, a2, a4, a3⟩ := hh
    refine ⟨v, a1, ?_, a4, a3⟩
    rw [h4] at a2
    rw [hq0.out]
    exact a2.mono (by omega) (by omega)
  go_enter Try.func119, Try.ntmps119
  go_upto_block 0 with fail
  refine name_any (fun W hW => ?_)
  have g0 : Grew w W := by rw [← hW]; (show Grew _ _; repeat (first | (with_reducible exact Grew.refl _) | (with_reducible assumption) | (with_reducible exact Grew.same_o) | (with_reducible exact Grew.app_o) | (with_reducible refine Grew.ext ?_ _ _) | (with_reducible refine Grew.alloc ?_ _) | ((with_reducible refine Grew.setCell ?_ ?_ _); rotate_left; (focus (dsimp only; first | omega | (simp only [size_ext, World.size_alloc, Array.size_append]; omega)))) | (with_reducible refine Grew.drewN ?_ _) | (with_reducible refine Grew.drew ?_)))
  have s1 : w.heap.size < W.heap.size := by rw [← hW]; simp only [World.size_alloc]; omega
  have f1 : ∀ i, W.frozen? ⟨w.heap.size, i, none⟩ = false := by subst hW; intro i; go_simp
  have b1 : ∀ i, W.cell? ⟨w.heap.size, i, none⟩ = (#[.bool false, .slice none 0 0, .int .i64 0] : Array Value)[i]? := by subst hW; intro i; go_simp
  clear hW
  go_wp2_with fail
  go_loopw [1, 5] (fun c d wx => ∃ (l : List Nat) (M : Nat), c = .int .u64 M ∧ OwnN wx W.heap.size d l ∧ Dg l ∧ l.length ≤ 4 ∧ M < 65536 ^ (4 - l.length) ∧ dv l + 65536 ^ l.length * M = m ∧ ∃ o n, wx = ext W o n) (fun c _ _ => (intOf c).toNat)
  case atStart => exact ⟨[], m, rfl, OwnN.nil _ _, Dg.nil, by simp, hm4, by simp [dv], _, _, ext_zero.symm⟩
  case round =>
    obtain ⟨l, M, rfl, hO, hD, h4, hM, hV, o1, n1, rfl⟩ := hrel
    have HM := hid hM
    have HV := hid hV
    clear hM hV
    by_cases h0 : M = 0
    · subst h0
      have hdv : dv l = m := by have := HV.out; rw [Nat.mul_zero, Nat.add_zero] at this; exact this
      have hns := hO.ns
      go_wp2_with (first | (go_at_call 120; ((with_reducible refine (hmade _ l _ hns hD h4 hdv).mono ?_); rintro e w1 ⟨v, rfl, hv, hbk, o2, n2, rfl⟩; obtain ⟨ng, sa, sn, sc, sE, rfl⟩ := hv.shape)))
      have hbk2 : ∀ k, dBlock (.agg #[.bool ng, .slice sa sn sc, .int .i64 sE]) = some k → W.heap.size ≤ k := fun k hk => hO.block k (hbk k hk)
      rw [ext_ext] at hv
      refine bodyPost_ret (by simp [results, Try.results119, go_sem, *]; rfl) rfl ?_
      exact ⟨_, rfl, hv.ext_set3 s1 (fun k hk => by have := hbk2 k hk; omega) _ _ _, fun k hk => by have := hbk2 k hk; omega, by (show Grew _ _; repeat (first | (with_reducible exact Grew.refl _) | (with_reducible assumption) | (with_reducible exact Grew.same_o) | (with_reducible exact Grew.app_o) | (with_reducible refine Grew.ext ?_ _ _) | (with_reducible refine Grew.alloc ?_ _) | ((with_reducible refine Grew.setCell ?_ ?_ _); rotate_left; (focus (dsimp only; first | omega | (simp only [size_ext, World.size_alloc, Array.size_append]; omega)))) | (with_reducible refine Grew.drewN ?_ _) | (with_reducible refine Grew.drew ?_)))⟩
    · have hlt : l.length < 4 := by
        rcases Nat.lt_or_ge l.length 4 with h | h
        · exact h
        · have := HM.out
          rw [show 4 - l.length = 0 by omega] at this
          simp at this; omega
      go_wp2_with (first | (at_builtin; refine append1_n iundN iinfoN rfl (W := W) (d := M % 65536) ⟨_, _, rfl⟩ hO ?_ (by omega) _ _ rfl rfl rfl ?_ rfl ?_; (focus omega); (focus (first | rfl | (simp only [size_ext]))); intro va oa na hoa))
      have hm2 := p64 hlt HM.out
      have e1 : IntKind.u64.wrap ((M : Int) / 65536) = ((M / 65536 : Nat) : Int) := by
        have : M < 65536 ^ 4 := Nat.lt_of_lt_of_le HM.out (Nat.pow_le_pow_right (by decide) (by omega))
        rw [IntWalk.u64_in _ (by omega)]; omega
      have hdm := Nat.div_add_mod M 65536
      have hVV : dv (l ++ [M % 65536]) + 65536 ^ (l.length + 1) * (M / 65536) = m := by
        rw [← HV.out, dv_append, Nat.pow_succ]
        show dv l + 65536 ^ l.length * (M % 65536 + 65536 * 0) + _ = _
        rw [Nat.mul_assoc, Nat.add_assoc, ← Nat.mul_add]
        congr 2; omega
      go_roundw
      case rel => exact ⟨l ++ [M % 65536], M / 65536, by rw [e1], hoa, hD.append (Dg.one (Nat.mod_lt _ (by decide))), by simp; omega, by simpa using hm2, by simpa using hVV, _, _, rfl⟩
      case measure => rw [e1]; simp [intOf]; omega
end Go.Proofs.Ytcmggfpcbijcjaa
end
section
/-
  Plain: quotients.
-/
set_option linter.unusedSimpArgs false
set_option linter.unusedVariables false
namespace Sedge
open Ieee
theorem dat_ne {s : Bool} {m : Nat} {p : Int} (h : dat s m p ≠ 0) : m ≠ 0 := fun h0 => by subst h0; exact h (dat_zero s p)
theorem dat_eq_zero {s : Bool} {m : Nat} {p : Int} (h : dat s m p = 0) : m = 0 := by
  rcases Nat.eq_zero_or_pos m with h0 | h0
  · exact h0
  · exfalso
    have h1 : (dat s m p).abs = (m : Rat) * p2 p := dat_abs s m p
    rw [h] at h1
    have h2 : (0 : Rat).abs = 0 := by decide +kernel
    rw [h2] at h1
    have h3 : (0 : Rat) < m := Rat.natCast_pos.2 h0
    have := Rat.mul_pos h3 (p2_pos p)
    rw [← h1] at this
    exact absurd this (by decide +kernel)
/-- The digits of a quotient. -/
theorem quot_digits {m n more : Nat} (hm : m ≠ 0) (hn : n ≠ 0) (hmore : more = 54 + n.log2 - m.log2) :
    2 ^ 53 * n ≤ m <<< more ∧ ((2 * ((m <<< more) / n) + ((m <<< more) % n != 0).toNat) * n ≤ 2 * (m <<< more) + n) ∧ (2 * (m <<< more) ≤ (2 * ((m <<< more) / n) + ((m <<< more) % n != 0).toNat) * n + n) := by
  have h1 : 2 ^ 53 * n ≤ m <<< more := by
    rw [Nat.shiftLeft_eq]
    have a1 := (log2_spec m hm).1
    have a2 := (log2_spec n hn).2
    have a3 : 2 ^ m.log2 * 2 ^ more ≤ m * 2 ^ more := Nat.mul_le_mul_right _ a1
    rw [← Nat.pow_add] at a3
    have a4 : 2 ^ (54 + n.log2) ≤ 2 ^ (m.log2 + more) := Nat.pow_le_pow_right (by decide) (by omega)
    have a5 : 2 ^ (54 + n.log2) = 2 ^ 53 * 2 ^ (n.log2 + 1) := by rw [← Nat.pow_add]; congr 1; omega
    have a6 : 2 ^ 53 * n ≤ 2 ^ 53 * 2 ^ (n.log2 + 1) := Nat.mul_le_mul_left _ (Nat.le_of_lt a2)
    omega
  refine ⟨h1, ?_⟩
  generalize m <<< more = d at *
  have hd := Nat.div_add_mod d n
  have hr := Nat.mod_lt d (Nat.pos_of_ne_zero hn)
  generalize d / n = q at *
  generalize d % n = r at *
  have e1 : (2 * q + (r != 0).toNat) * n = 2 * (n * q) + (r != 0).toNat * n := by rw [Nat.add_mul, Nat.mul_assoc, Nat.mul_comm q n]
  rw [e1]
  by_cases h0 : r = 0
  · subst h0; simp; omega
  · have : (r != 0) = true := by simpa using h0
    rw [this]; simp; omega
theorem fdiv_read {x y : Nat} (hx : fin x = true) (hy : fin y = true) (hy0 : val y ≠ 0) : ∃ c z b, fdiv x y = D64.write (.number c z b) ∧ (dat c z b * val y - val x).abs ≤ U * (val x).abs := by
  obtain ⟨s, m, i, hx⟩ := (fin_iff x).1 hx
  obtain ⟨t, n, j, hy⟩ := (fin_iff y).1 hy
  rw [val_of hy] at hy0 ⊢
  rw [val_of hx]
  have hn := dat_ne hy0
  refine ⟨s ^^ t, 2 * ((m <<< (54 + n.log2 - m.log2)) / n) + ((m <<< (54 + n.log2 - m.log2)) % n != 0).toNat, i - j - ((54 + n.log2 - m.log2 : Nat) : Int) - 1, ?_, ?_⟩
  · unfold fdiv Format.div; rw [hx, hy]; simp only [Datum.quotient, if_neg hn]; rfl
  by_cases hm : m = 0
  · subst hm
    have e0 : (0 : Nat) <<< (54 + n.log2 - Nat.log2 0) = 0 := by rw [Nat.shiftLeft_eq]; simp
    rw [e0]
    have e1 : 2 * (0 / n) + (0 % n != 0).toNat = 0 := by simp
    rw [e1, dat_zero, dat_zero]
    have : ((0 : Rat) * dat t n j - 0).abs = 0 := by rw [show (0 : Rat) * dat t n j - 0 = 0 by grind]; decide +kernel
    rw [this]
    have h2 : (0 : Rat).abs = 0 := by decide +kernel
    rw [h2]; grind
  obtain ⟨h1, h2, h3⟩ := quot_digits hm hn rfl
  generalize hmo : 54 + n.log2 - m.log2 = more at *
  generalize hq : 2 * (m <<< more / n) + (m <<< more % n != 0).toNat = Q at *
  have hd : m <<< more = m * 2 ^ more := Nat.shiftLeft_eq m more
  rw [hd] at h1 h2 h3
  -- in units of 2^(i - more - 1)
  have e1 : dat (s ^^ t) Q (i - j - more - 1) * dat t n j - dat s m i = sgn s * (((Q * n : Nat) : Rat) - ((2 * (m * 2 ^ more) : Nat) : Rat)) * p2 (i - more - 1) := by
    unfold dat
    rw [sgn_xor]
    have a1 : p2 (i - j - more - 1) * p2 j = p2 (i - more - 1) := by rw [← p2_add]; congr 1; omega
    have a2 : p2 i = 2 * ((2 ^ more : Nat) : Rat) * p2 (i - more - 1) := by
      rw [← p2_nat, ← p2_succ, ← p2_add]; congr 1; omega
    have a3 := sgn_sq t
    rw [a2]
    simp only [Rat.natCast_mul]
    have b1 : ((2 : Nat) : Rat) = 2 := rfl
    rw [b1]
    grind
  rw [e1]
  have h1' := Rat.natCast_le_natCast.2 h1
  have h2' := Rat.natCast_le_natCast.2 h2
  have h3' := Rat.natCast_le_natCast.2 h3
  have e2 : (dat s m i).abs = ((2 * (m * 2 ^ more) : Nat) : Rat) * p2 (i - more - 1) := by
    rw [dat_abs]
    have a2 : p2 i = 2 * ((2 ^ more : Nat) : Rat) * p2 (i - more - 1) := by
      rw [← p2_nat, ← p2_succ, ← p2_add]; congr 1; omega
    rw [a2]
    simp only [Rat.natCast_mul]
    have b1 : ((2 : Nat) : Rat) = 2 := rfl
    rw [b1]
    grind
  rw [e2]
  have hp := p2_pos (i - more - 1)
  rw [Rat.mul_assoc, abs_sgn_mul]
  have e3 : ((2 ^ 53 * n : Nat) : Rat) = p2 53 * (n : Rat) := by rw [Rat.natCast_mul, ← p2_nat]; rfl
  have e4 : p2 53 * U = 1 := by unfold U; exact p2_inv 53
  have hU := U_pos
  have c1 : ((n : Nat) : Rat) ≤ U * ((2 * (m * 2 ^ more) : Nat) : Rat) := by
    rw [e3] at h1'
    have := Rat.mul_le_mul_of_nonneg_left h1' (Rat.le_of_lt hU)
    have e5 : ((2 * (m * 2 ^ more) : Nat) : Rat) = 2 * ((m * 2 ^ more : Nat) : Rat) := by rw [Rat.natCast_mul]; rfl
    rw [e5]
    have p0 : 0 ≤ U * ((m * 2 ^ more : Nat) : Rat) := Rat.mul_nonneg (Rat.le_of_lt hU) Rat.natCast_nonneg
    have : U * (p2 53 * (n : Rat)) = n := by
      have : U * (p2 53 * (n : Rat)) = p2 53 * U * n := by grind
      rw [this, e4]; grind
    grind
  rw [Rat.natCast_add] at h2' h3'
  generalize ((2 * (m * 2 ^ more) : Nat) : Rat) = D at *
  generalize ((Q * n : Nat) : Rat) = R at *
  have k1 := Rat.mul_le_mul_of_nonneg_right (show R - D ≤ U * D by grind) (Rat.le_of_lt hp)
  have k2 := Rat.mul_le_mul_of_nonneg_right (show -(U * D) ≤ R - D by grind) (Rat.le_of_lt hp)
  exact abs_le_of (by grind) (by grind)
theorem abs_mul (x y : Rat) : (x * y).abs = x.abs * y.abs := by
  rcases Rat.le_total (a := 0) (b := x) with p | p <;> rcases Rat.le_total (a := 0) (b := y) with q | q
  · rw [Rat.abs_of_nonneg p, Rat.abs_of_nonneg q, Rat.abs_of_nonneg (Rat.mul_nonneg p q)]
  · rw [Rat.abs_of_nonneg p, Rat.abs_of_nonpos q, Rat.abs_of_nonpos (by have := Rat.mul_nonneg p (show 0 ≤ -y by grind); grind)]; grind
  · rw [Rat.abs_of_nonpos p, Rat.abs_of_nonneg q, Rat.abs_of_nonpos (by have := Rat.mul_nonneg (show 0 ≤ -x by grind) q; grind)]; grind
  · rw [Rat.abs_of_nonpos p, Rat.abs_of_nonpos q, Rat.abs_of_nonneg (by have := Rat.mul_nonneg (show 0 ≤ -x by grind) (show 0 ≤ -y by grind); grind)]; grind
/-- A QUOTIENT, TIMES WHAT DIVIDED. -/
theorem fdiv_err {x y : Nat} (hx : fin x = true) (hy : fin y = true) (hy0 : val y ≠ 0) (h : fin (fdiv x y) = true) : (val (fdiv x y) * val y - val x).abs ≤ 3 * U * (val x).abs + ETA * (val y).abs := by
  obtain ⟨c, z, b, h1, h2⟩ := fdiv_read hx hy hy0
  rw [h1] at h ⊢
  have h3 := write_err c z b h
  generalize val (D64.write (.number c z b)) = q at *
  generalize dat c z b = d at *
  generalize val x = X at *
  generalize val y = Y at *
  have a1 := abs_add_le ((q - d) * Y) (d * Y - X)
  rw [show (q - d) * Y + (d * Y - X) = q * Y - X by grind, abs_mul] at a1
  have y0 : 0 ≤ Y.abs := Rat.abs_nonneg
  have a2 := Rat.mul_le_mul_of_nonneg_right h3 y0
  have a3 := abs_add_le X (d * Y - X)
  rw [show X + (d * Y - X) = d * Y by grind, abs_mul] at a3
  have hU := U_pos
  have hU1 := U_le
  have x0 : 0 ≤ X.abs := Rat.abs_nonneg
  have a4 := Rat.mul_le_mul_of_nonneg_left a3 (Rat.le_of_lt hU)
  have a5 := Rat.mul_le_mul_of_nonneg_left h2 (Rat.le_of_lt hU)
  have ux : 0 ≤ U * X.abs := Rat.mul_nonneg (Rat.le_of_lt hU) x0
  have a6 := Rat.mul_le_mul_of_nonneg_right hU1 ux
  grind
/-- What a quotient that is finite was made of. -/
theorem fdiv_fin {x y : Nat} (h : fin (fdiv x y) = true) : fin x = true := by
  obtain ⟨s, m, p, ho⟩ := fin_getD h (fun d hd => quotient_notnan hd)
  refine (fin_iff _).2 ?_
  revert ho
  cases D64.read x <;> cases D64.read y <;> simp [Datum.quotient]
end Sedge
end
section
/-
  Contracts: the reference's digits (layer 2): Shift.
-/
set_option linter.unusedSimpArgs false
set_option linter.unusedVariables false
open Go Go.RowKit Sedge
namespace Go.Proofs.Ytcmggfpcbijcjaa
theorem emod16 (k : Int) : ∃ r : Nat, k % 16 = r ∧ r < 16 := ⟨(k % 16).toNat, by omega, by omega⟩
set_option maxRecDepth 100000 in
set_option maxHeartbeats 4000000 in
/-- Shift. -/
theorem dshift_any (V : Value) (q : Rat) (lo hi k : Int) (w : World) (hV : DV w V q lo hi) (hlo : -100000 ≤ lo) (hhi : hi ≤ 100000) (hk : -100000 ≤ k ∧ k ≤ 100000) :
   Calls Try.prog 32 #[V, .int .i64 k] w (fun e w' => ∃ v, e = .returned v ∧ DV w' v (q * p2 k) (lo + k / 16) (hi + k / 16 + 1) ∧ (∀ b, dBlock v = some b → w.heap.size ≤ b) ∧ ∃ o n, w' = ext w o n) := by
  obtain ⟨ng, L, E, l, rfl, hN, hD, hq, h0, h1, h2⟩ := hV
  obtain ⟨r, hr, hr16⟩ := emod16 k
  obtain ⟨Q, hQ⟩ : ∃ Q, Q = k / 16 := ⟨_, rfl⟩
  have hkQ : k = 16 * Q + r := by omega
  have hQb : -10000 ≤ Q ∧ Q ≤ 10000 := by omega
  have hEb : -100000 ≤ E ∧ E ≤ 100000 ∧ l.length ≤ 200000 := by
    by_cases hl : l = []
    · subst hl; have := (h1 rfl).1; simp; omega
    · have := h2 hl; omega
  obtain ⟨q0, hq0⟩ : ∃ q0, Hid (q0 = q * p2 k) := ⟨_, hid rfl⟩
  obtain ⟨P, hP⟩ : ∃ P, P = 2 ^ r := ⟨_, rfl⟩
  rw [← hq0.out, ← hQ]
  have hfl : ∀ w', Calls Try.prog 124 #[.int .i64 k] w' (fun e w2 => e = .returned (.tuple #[.int .i64 Q, .int .i64 r]) ∧ w' = w2) := fun w' => by
    have := floor_any k w' (by omega)
    rw [← hQ, hr] at this
    exact this.mono fun e w2 h => ⟨h.1, h.2.symm⟩
  have hpw : ∀ w', Calls Try.prog 125 #[.int .i64 r] w' (fun e w2 => e = .returned (.int .i64 (P : Int)) ∧ w' = w2) := fun w' => by
    rw [hP]; exact (power_any r w' (by omega)).mono fun e w2 h => ⟨h.1, h.2.symm⟩
  have hmade : ∀ L' l' w', NS w' L' l' → Dg l' → l'.length = l.length + 1 → dv l' = dv l * P → Calls Try.prog 120 #[.bool ng, L', .int .i64 (E + Q)] w' (fun e w2 => ∃ v, e = .returned v ∧ DV w2 v q0 (lo + Q) (hi + Q + 1) ∧ (∀ k, dBlock v = some k → L'.ownBlock = some k) ∧ ∃ o n, w2 = ext w' o n) := fun L' l' w' a1 a2 a3 a4 => by
    refine (made_any ng L' l' (E + Q) w' a1 a2 (by omega) (by omega)).mono fun e w2 hh => ?_
    obtain ⟨v, b1, b2, b3, b4⟩ := hh
    refine ⟨v, b1, ?_, b3, b4⟩
    have e1 : dat ng (dv l') (16 * (E + Q)) = q0 := by
      rw [hq0.out, hq, a4, hP, hkQ]
      unfold dat
      rw [Rat.natCast_mul, ← p2_nat, show 16 * (E + Q) = 16 * E + 16 * Q by omega, p2_add, p2_add]
      grind
    rw [e1] at b2
    obtain ⟨ng', L2, E2, l2, c1, c2, c3, c4, c5, c6, c7⟩ := b2
    refine ⟨ng', L2, E2, l2, c1, c2, c3, c4, c5, c6, fun hl2 => ?_⟩
    have c8 := c7 hl2
    by_cases hl : l = []
    · exfalso
      subst hl
      have hd0 : dv l' = 0 := by rw [a4]; simp [dv]
      rw [hd0, dat_zero] at e1
      rw [← e1] at c4
      have := dat_eq_zero c4.symm
      exact hl2 (c5 this)
    · have := h2 hl; omega
  obtain ⟨sa, sc, rfl⟩ := hN.shape
  have Hq := hid hq
  clear hkQ hq h0 h1 h2 hq0 hQ hr
  go_enter Try.func32, Try.ntmps32
  refine seq_stop ?_
  go_wp2
  refine stop_go (fun W hW => ?_)
  have s1 : w.heap.size < W.heap.size := by rw [hW]; simp only [World.size_alloc]; omega
  have b1 : ∀ i, W.cell? ⟨w.heap.size, i, none⟩ = (#[.bool ng, .slice sa l.length sc, .int .i64 E] : Array Value)[i]? := by intro i; rw [hW]; go_simp
  have f1 : ∀ i, W.frozen? ⟨w.heap.size, i, none⟩ = false := by intro i; rw [hW]; go_simp
  have s2 : w.heap.size + 1 < W.heap.size := by rw [hW]; simp only [World.size_alloc]; omega
  have b2 : ∀ i, W.cell? ⟨w.heap.size + 1, i, none⟩ = (#[.bool false, .slice none 0 0, .int .i64 0] : Array Value)[i]? := by intro i; rw [hW]; go_simp
  have f2 : ∀ i, W.frozen? ⟨w.heap.size + 1, i, none⟩ = false := by intro i; rw [hW]; go_simp
  have g0 : Grew w W := by rw [hW]; exact ((Grew.refl _).alloc _).alloc _
  clear hW
  have hNW := hN.grew g0
  have zW := g0.below.size
  go_wp2_with (first | (go_at_call 124; ((with_reducible refine (hfl _).mono ?_); rintro e w1 ⟨rfl, rfl⟩)) | (at_make; refine make_n iundN iinfoN (Grew.refl W) _ _ rfl rfl (l.length + 1) (by omega) rfl rfl (by omega) ?_; intro oo nn g hg hB))
  refine name_any (fun V hV => ?_)
  have gV : Grew W V := by rw [← hV]; (show Grew _ _; repeat (first | (with_reducible exact Grew.refl _) | (with_reducible assumption) | (with_reducible exact Grew.same_o) | (with_reducible exact Grew.app_o) | (with_reducible refine Grew.ext ?_ _ _) | (with_reducible refine Grew.alloc ?_ _) | ((with_reducible refine Grew.setCell ?_ ?_ _); rotate_left; (focus (dsimp only; first | omega | (simp only [size_ext, World.size_alloc, Array.size_append]; omega)))) | (with_reducible refine Grew.drewN ?_ _) | (with_reducible refine Grew.drew ?_)))
  rw [hV] at hB
  clear hV
  have zV := gV.below.size
  have kgV := hB.lt
  have c1 : ∀ i, V.cell? ⟨w.heap.size, i, none⟩ = (#[.bool ng, .slice sa l.length sc, .int .i64 E] : Array Value)[i]? := fun i => (gV.cell s1).trans (b1 i)
  have c2 : ∀ i, V.cell? ⟨w.heap.size + 1, i, none⟩ = (#[.bool false, .slice none 0 0, .int .i64 0] : Array Value)[i]? := fun i => (gV.cell s2).trans (b2 i)
  have fz : ∀ i, V.frozen? ⟨g, i, none⟩ = false := hB.notFrozen
  have fz2 : ∀ i, V.frozen? ⟨w.heap.size + 1, i, none⟩ = false := fun i => (gV.frozen s2).trans (f2 i)
  have k1 : w.heap.size < V.heap.size := by omega
  have k2 : w.heap.size + 1 < V.heap.size := by omega
  have n1 : w.heap.size ≠ g := by omega
  have n2 : w.heap.size + 1 ≠ g := by omega
  have hNV := hNW.grew gV
  clear b1 b2 f1 f2
  go_loopw [8] (fun c wx => ∃ (i : Nat) (m : List Nat) (o : Array Obj) (n : Nat), i ≤ l.length ∧ c = .int .i64 i ∧ wx = ext (upd V g (ia m)) o n ∧ m.length = l.length + 1 ∧ Dg m ∧ dv m = ds (fun j => l.getD j 0) i * P ∧ m.getD i 0 < P ∧ ∀ j, i < j → m.getD j 0 = 0) (fun c _ => l.length - (intOf c).toNat)
  case atStart =>
    refine ⟨0, List.replicate (l.length + 1) 0, #[], V.drawn, Nat.zero_le _, rfl, by rw [hB.self]; exact ext_zero.symm, by simp, Dg.replicate _, by rw [dv_replicate]; simp [ds], ?_, ?_⟩
    · rw [hP]; simpa using Nat.two_pow_pos r
    · intro j _
      rw [List.getD_eq_getElem?_getD, List.getElem?_replicate]; split <;> rfl
  case round =>
    obtain ⟨i, m, o, n, hi, rfl, rfl, hml, hmD, hmV, hm0, hmz⟩ := hrel
    by_cases hlt : i < l.length
    · obtain ⟨blk, so, rfl, hblk, hcl⟩ := hNW.at.2.2 (by omega)
      have hci := (gV.cell hblk).trans (hcl i hlt)
      have kb : blk < V.heap.size := by omega
      have nb : blk ≠ g := by omega
      obtain ⟨d, hd⟩ : ∃ d, d = l.getD i 0 := ⟨_, rfl⟩
      have hd16 : d < 65536 := by rw [hd]; exact hD.get i
      rw [← hd] at hci
      obtain ⟨T, hT⟩ : ∃ T, T = d * P := ⟨_, rfl⟩
      have hP16 : P ≤ 65536 := by rw [hP]; exact pow_le16 (by omega)
      have hT2 : T ≤ 65536 * 65536 := by rw [hT]; exact Nat.mul_le_mul (by omega) hP16
      have a1 : IntKind.i64.wrap ((d : Int) * (P : Int)) = (T : Int) := by rw [IntWalk.i64_in _ (by rw [← Int.natCast_mul, ← hT]; omega), hT]; simp
      obtain ⟨x, hx⟩ : ∃ x, x = m.getD i 0 := ⟨_, rfl⟩
      have hmi : (upd V g (ia m)).cell? ⟨g, i, none⟩ = some (.int .i64 (x : Int)) := by rw [hB.get (by omega), hx]
      have hmi2 : ∀ v, (upd V g ((ia m).setIfInBounds i v)).cell? ⟨g, i + 1, none⟩ = some (.int .i64 (m.getD (i + 1) 0 : Nat)) := fun v => by rw [hB.cells, Array.getElem?_setIfInBounds, if_neg (by omega), ia_get _ (by omega)]
      have hx16 : x < 65536 := by rw [hx]; exact hmD.get i
      have hst := shift_step (l := m) (i := i) (d := d) (r := r) (by omega) hmD hd16 hr16 (by rw [← hP]; exact hm0) hmz
      have hia : i ≤ 200000 := by omega
      have HST := hid hst
      have HMV := hid hmV
      have HH := hid hml
      have HP := hid hP
      have HD := hid hd
      have HX := hid hx
      have HT := hid hT
      clear hst hmV hm0 hmz hml hP hd hx hT hcl hmD
      have m1 : (T : Int).tmod 65536 = ((T % 65536 : Nat) : Int) := by rw [Int.tmod_eq_emod_of_nonneg (by omega)]; omega
      have m2 : (T : Int).tdiv 65536 = ((T / 65536 : Nat) : Int) := by rw [Int.tdiv_eq_ediv_of_nonneg (by omega)]; omega
      go_wp2
      refine wp_region_R (Grew (ext (upd V g (ia m)) o n)) [] [(0,0), (0,1), (0,2), (0,3), (0,4), (0,5), (1,6), (0,7), (0,8)] (by kernel_rfl) (by kernel_rfl) (fun _ _ _ _ h _ => h) (by first | exact ⟨_, _, ext_drew⟩ | exact ⟨_, _, drew_ext0⟩ | (show Grew _ _; repeat (first | (with_reducible exact Grew.refl _) | (with_reducible assumption) | (with_reducible exact Grew.same_o) | (with_reducible exact Grew.app_o) | (with_reducible refine Grew.ext ?_ _ _) | (with_reducible refine Grew.alloc ?_ _) | ((with_reducible refine Grew.setCell ?_ ?_ _); rotate_left; (focus (dsimp only; first | omega | (simp only [size_ext, World.size_alloc, Array.size_append]; omega)))) | (with_reducible refine Grew.drewN ?_ _) | (with_reducible refine Grew.drew ?_)))) ?_
      go_wp2_with (first | ((with_reducible refine wpR_id ?_); first | (refine wpR_take (v := ?_) rfl rfl ?_ ?_; rotate_left; (focus (rintro w' ⟨o', n', rfl⟩; go_simp; try with_reducible rfl)); simp only [Act.put, List.setIfInBounds_toArray, List.set_cons_zero, List.set_cons_succ]) | (refine wpR_pure (v := ?_) rfl rfl ?_ ?_; rotate_left; (focus (intro w'; go_simp; try with_reducible rfl)); simp only [Act.put, List.setIfInBounds_toArray, List.set_cons_zero, List.set_cons_succ]) | (refine wpR_takeG (v := ?_) rfl rfl rfl rfl rfl ?_ ?_; rotate_left; (focus (rintro w' ⟨o', n', rfl⟩; go_simp; try with_reducible rfl)); simp only [Act.put, List.setIfInBounds_toArray, List.set_cons_zero, List.set_cons_succ]) | (refine wpR_skip rfl rfl rfl rfl rfl rfl ?_; simp only [Act.put, List.setIfInBounds_toArray, List.set_cons_zero, List.set_cons_succ]) | (refine wpR_skipU rfl rfl rfl rfl rfl ?_; simp only [Act.put, List.setIfInBounds_toArray, List.set_cons_zero, List.set_cons_succ]) | (refine wpR_do rfl rfl (fun K hK => ?_)) | (refine wpR_doG rfl rfl rfl rfl rfl (fun K hK => ?_)) | (refine wpR_last rfl rfl (fun K hK => ?_)) | (refine wpR_nil ?_)) | ((with_reducible refine wpR_go ?_ ?_); (focus (show Grew _ _; repeat (first | (with_reducible exact Grew.refl _) | (with_reducible assumption) | (with_reducible exact Grew.same_o) | (with_reducible exact Grew.app_o) | (with_reducible refine Grew.ext ?_ _ _) | (with_reducible refine Grew.alloc ?_ _) | ((with_reducible refine Grew.setCell ?_ ?_ _); rotate_left; (focus (dsimp only; first | omega | (simp only [size_ext, World.size_alloc, Array.size_append]; omega)))) | (with_reducible refine Grew.drewN ?_ _) | (with_reducible refine Grew.drew ?_))))) | ((with_reducible refine upon_id ?_); refine upon_fop rfl (by assumption) (by assumption) ?_; intro rr nn hr) | (go_at_call 125; ((with_reducible refine (hpw _).mono ?_); rintro e w1 ⟨rfl, rfl⟩)))
      go_roundw
      case rel =>
        obtain ⟨q1, q2, q3, q4⟩ := HST.out
        refine ⟨i + 1, (m.set i (x + T % 65536)).set (i + 1) (T / 65536), o, n + 1, by omega, by go_num, ?_, by simp; exact HH.out, ?_, ?_, ?_, ?_⟩
        · rw [← ia_set, ← ia_set]
          simp only [Int.natCast_add, Int.natCast_emod, Int.natCast_ediv]
          rfl
        · rw [HX.out, HT.out, HP.out]; exact q2
        · rw [HX.out, HT.out, HP.out, q1, HMV.out]
          show _ = (ds (fun j => l.getD j 0) i + l.getD i 0 * 65536 ^ i) * 2 ^ r
          rw [← HD.out, Nat.add_mul, HP.out, Nat.mul_right_comm d]
        · rw [HX.out, HT.out, HP.out]; exact q3
        · rw [HX.out, HT.out, HP.out]; exact q4
      case measure => simp [intOf]; omega
    · have e : i = l.length := by omega
      have hdv : dv m = dv l * P := by rw [hmV, e, ds_list]
      have hns : NS (ext (upd V g (ia m)) o n) (.slice (some ⟨g, 0, none⟩) (l.length + 1) (l.length + 1)) m := by
        have h5 := hB.mk' m o n
        have h6 := h5.ns (cap := l.length + 1) (by rw [hml]; exact Nat.le_refl _)
        rw [hml] at h6
        exact h6
      have aQ : IntKind.i64.wrap (E + Q) = E + Q := IntWalk.i64_in _ (by omega)
      have HDV := hid hdv
      have HH := hid hml
      subst e
      clear hdv hmV hm0 hmz hml
      go_wp2_with (first | (go_at_call 120; ((with_reducible refine (hmade _ m _ hns hmD HH.out HDV.out).mono ?_); rintro e w1 ⟨v, rfl, hv, hbk, o2, n2, rfl⟩; obtain ⟨vn, va, vl, vc, vE, rfl⟩ := hv.shape)))
      have hbk2 : ∀ k, dBlock (.agg #[.bool vn, .slice va vl vc, .int .i64 vE]) = some k → k = g := fun k hk => by have := hbk k hk; cases this; rfl
      rw [ext_ext] at hv
      refine bodyPost_ret (by simp [results, Try.results32, go_sem, *]; rfl) rfl ?_
      refine ⟨_, rfl, hv.ext_set3 (by simpa using k2) (fun k hk => by have := hbk2 k hk; omega) _ _ _, fun k hk => by have := hbk2 k hk; omega, ?_⟩
      have gU : Grew w (upd V g (ia m)) := (Grew.trans g0 gV).upd (by omega) _
      have gS : ∀ (X : World) i v, Grew w X → Grew w (X.setCell ⟨w.heap.size + 1, i, none⟩ v) := fun X i v h => h.setCell (by show w.heap.size ≤ w.heap.size + 1; omega) v
      exact (gS _ _ _ (gS _ _ _ (gS _ _ _ gU))).ext _ _
end Go.Proofs.Ytcmggfpcbijcjaa
end
section
/-
  Plain: the backward error of a row is one.
-/
set_option linter.unusedSimpArgs false
set_option linter.unusedVariables false
namespace Sedge
open Ieee
/-! Words that are not below 0. -/
def nnD : Datum → Prop
  | .number s m _ => s = false ∨ m = 0
  | .infinity s => s = false
  | .nan .. => True
def nn (x : Nat) : Prop := nnD (D64.read x)
theorem nn_word (s : Bool) (n : Nat) (hn : n ≤ IR) (h : s = false ∨ n = 0) : nn (D64.word s n) := by
  unfold nn
  have hI : IR < SW := by decide +kernel
  rw [read_word s n (by omega)]
  split
  · rcases h with h | h
    · exact .inl h
    · exact .inr h
  · rename_i h1
    have hs : s = false := by
      rcases h with h | h
      · exact h
      · subst h; exact absurd (show 0 < BN by decide +kernel) h1
    split
    · exact .inl hs
    · split
      · exact hs
      · trivial
theorem nn_write (d : Datum) (h : nnD d) (hn : d.isNaN = false) : nn (D64.write d) := by
  cases d with
  | number s m p =>
    show nn (D64.nearest s m p)
    by_cases h0 : m = 0
    · subst h0
      have e : D64.nearest s 0 p = D64.word s 0 := by unfold Format.nearest; rw [if_pos rfl]
      rw [e]; exact nn_word s 0 (Nat.zero_le _) (.inr rfl)
    · rw [nearest_eq s m p h0]
      refine nn_word s _ (Nat.min_le_right _ _) (.inl ?_)
      rcases h with h | h
      · exact h
      · exact absurd h h0
  | infinity s =>
    have e : D64.write (.infinity s) = D64.word s IR := by cases s <;> decide +kernel
    rw [e]; exact nn_word s IR (Nat.le_refl _) (.inl h)
  | nan s t => cases hn
theorem nn_QN : nn QN := by
  unfold nn
  have : (D64.read QN).isNaN = true := isNan_QN
  revert this
  cases D64.read QN <;> simp [Datum.isNaN, nnD]
theorem nn_op {o : Option Datum} (h : ∀ d, o = some d → nnD d) (hn : ∀ d, o = some d → d.isNaN = false) : nn ((o.map D64.write).getD QN) := by
  cases o with
  | none => exact nn_QN
  | some d => exact nn_write d (h d rfl) (hn d rfl)
theorem nn_signed {s : Bool} {m k : Nat} (h : s = false ∨ m = 0) : 0 ≤ signed s m k := by
  unfold signed
  rcases h with h | h
  · subst h; simp only [Bool.false_eq_true, if_false]; exact Int.natCast_nonneg _
  · subst h; simp [Nat.shiftLeft_eq]
theorem nn_fadd {x y : Nat} (hx : nn x) (hy : nn y) : nn (fadd x y) := by
  refine nn_op (fun d hd => ?_) (fun d hd => sum_notnan hd)
  unfold nn at hx hy
  revert hd hx hy
  cases D64.read x <;> cases D64.read y <;> simp only [Datum.sum, nnD]
  · rename_i s m i t n j
    intro h1 h2 h3
    cases h3
    have a1 := nn_signed (k := (i - min i j).toNat) h1
    have a2 := nn_signed (k := (j - min i j).toNat) h2
    rcases Int.lt_or_le 0 (signed s m (i - min i j).toNat + signed t n (j - min i j).toNat) with h | h
    · left
      simp only [show ¬ (signed s m (i - min i j).toNat + signed t n (j - min i j).toNat = 0) by omega, if_false]
      simp; omega
    · right; omega
  all_goals first | (intro h1 h2 h3; cases h3; first | exact h1 | exact h2) | (intro h1 h2 h3; split at h3 <;> cases h3; first | exact h1 | exact h2) | (intro h1 h2 h3; cases h3)
theorem nn_fmul {x y : Nat} (hx : nn x) (hy : nn y) : nn (fmul x y) := by
  refine nn_op (fun d hd => ?_) (fun d hd => product_notnan hd)
  unfold nn at hx hy
  revert hd hx hy
  cases D64.read x <;> cases D64.read y <;> simp only [Datum.product, nnD]
  · intro h1 h2 h3
    cases h3
    rcases h1 with rfl | rfl
    · rcases h2 with rfl | rfl
      · left; rfl
      · right; simp
    · right; simp
  all_goals first | (intro h1 h2 h3; cases h3; done) | (intro h1 h2 h3; cases h3; simp_all; done) | (intro h1 h2 h3; split at h3 <;> cases h3; simp_all [nnD])
theorem nn_fdiv {x y : Nat} (hx : nn x) (hy : nn y) (h0 : ∀ s p, D64.read y ≠ .number s 0 p) : nn (fdiv x y) := by
  refine nn_op (fun d hd => ?_) (fun d hd => quotient_notnan hd)
  unfold nn at hx hy
  revert hd hx hy h0
  cases D64.read x <;> cases D64.read y <;> simp only [Datum.quotient, nnD]
  · rename_i s m i t n j
    intro h1 h2 h0 h3
    by_cases hn : n = 0
    · subst hn; exact absurd rfl (h0 t j)
    · rw [if_neg hn] at h3
      cases h3
      have ht : t = false := by
        rcases h2 with h2 | h2
        · exact h2
        · exact absurd h2 hn
      subst ht
      rcases h1 with rfl | rfl
      · left; rfl
      · right; simp [Nat.shiftLeft_eq]
  · intro h1 h2 h0 h3
    cases h3
    exact .inr rfl
  case infinity.number s t n j =>
    intro h1 h2 h0 h3
    cases h3
    subst h1
    rcases h2 with rfl | rfl
    · show (false ^^ false) = false
      rfl
    · exact absurd rfl (h0 t j)
  all_goals (intro h1 h2 h0 h3; cases h3)
theorem nn_fabs {x : Nat} (hx : x < 2 ^ 64) : nn (fabs x) := by
  unfold nn
  rw [read_eq _ (fabs_lt hx), pNeg_abs]
  split
  · exact .inl rfl
  · split
    · rfl
    · trivial
theorem nn_val {x : Nat} (h : nn x) (hf : fin x = true) : 0 ≤ val x := by
  obtain ⟨s, m, p, hr⟩ := (fin_iff x).1 hf
  unfold nn at h
  rw [hr] at h
  rw [val_of hr]
  rcases h with rfl | rfl
  · unfold dat sgn
    have := Rat.mul_nonneg (Rat.natCast_nonneg (a := m)) (Rat.le_of_lt (p2_pos p))
    simp; exact this
  · rw [dat_zero]; exact Rat.le_refl
/-- How finite numbers are ordered. -/
theorem order_val {x y : Nat} (hx : fin x = true) (hy : fin y = true) : (fgt x y = true ↔ val y < val x) ∧ (feq x y = true ↔ val x = val y) ∧ (flt x y = true ↔ val x < val y) := by
  obtain ⟨s, m, i, hx⟩ := (fin_iff x).1 hx
  obtain ⟨t, n, j, hy⟩ := (fin_iff y).1 hy
  have h1 := signed_val s m (i - min i j).toNat (min i j)
  have h2 := signed_val t n (j - min i j).toNat (min i j)
  rw [show min i j + ((i - min i j).toNat : Int) = i by omega] at h1
  rw [show min i j + ((j - min i j).toNat : Int) = j by omega] at h2
  have e : D64.order x y = some (compare (signed s m (i - min i j).toNat) (signed t n (j - min i j).toNat)) := by
    unfold Format.order; rw [hx, hy]; rfl
  rw [val_of hx, val_of hy, ← h1, ← h2]
  unfold fgt feq flt
  rw [e]
  generalize signed s m (i - min i j).toNat = a
  generalize signed t n (j - min i j).toNat = b
  have hp := p2_pos (min i j)
  generalize p2 (min i j) = g at *
  have key : ∀ c d : Int, c < d → (c : Rat) * g < (d : Rat) * g := fun c d h => Rat.mul_lt_mul_of_pos_right (Rat.intCast_lt_intCast.2 h) hp
  have irr : ∀ r : Rat, ¬ r < r := fun r => Rat.lt_irrefl
  rw [some_beq, some_beq, some_beq, cmp_gt, cmp_eq, cmp_lt]
  simp only [decide_eq_true_eq]
  rcases Int.lt_trichotomy a b with h | h | h
  · have := key a b h
    refine ⟨⟨fun h' => by omega, fun h' => by grind⟩, ⟨fun h' => by omega, fun h' => by grind⟩, ⟨fun _ => this, fun _ => h⟩⟩
  · subst h
    refine ⟨⟨fun h' => by omega, fun h' => absurd h' (irr _)⟩, ⟨fun _ => rfl, fun _ => rfl⟩, ⟨fun h' => by omega, fun h' => absurd h' (irr _)⟩⟩
  · have := key b a h
    refine ⟨⟨fun _ => this, fun _ => h⟩, ⟨fun h' => by omega, fun h' => by grind⟩, ⟨fun h' => by omega, fun h' => by grind⟩⟩
theorem back_ineq {B X E F w ρ q1 qv : Rat} (hB : 0 ≤ B) (hXE : X.abs + E ≤ F) (hEU : U * B ≤ E) (hw : (w - B).abs ≤ E) (w0 : 0 < w) (r0 : 0 ≤ ρ) (hr : (ρ * w - F).abs ≤ 3 * U * F.abs + ETA * w.abs)
    (h1 : (q1 - ρ * (8 * U)).abs ≤ U * (ρ * (8 * U)).abs + ETA) (hq : (qv - (ρ + q1)).abs ≤ U * (ρ + q1).abs) (q0 : 0 ≤ qv) (hle : qv ≤ 1) (hq1 : 0 ≤ q1) : X.abs ≤ qv * B := by
  have hU := U_pos
  have hU1 := U_tiny
  have hEt := ETA_pos
  have uB : 0 ≤ U * B := Rat.mul_nonneg (Rat.le_of_lt hU) hB
  have E0 : 0 ≤ E := Rat.le_trans uB hEU
  have X0 : 0 ≤ X.abs := Rat.abs_nonneg
  have F0 : 0 ≤ F := by grind
  have w0' := Rat.le_of_lt w0
  rw [Rat.abs_of_nonneg F0, Rat.abs_of_nonneg w0'] at hr
  have tiny : ∀ x : Rat, 0 ≤ x → 1048576 * (U * x) ≤ x := fun x hx => by
    have := Rat.mul_le_mul_of_nonneg_right hU1 hx
    grind
  have pos : ∀ x : Rat, 0 ≤ x → 0 ≤ U * x := fun x hx => Rat.mul_nonneg (Rat.le_of_lt hU) hx
  have ur := pos ρ r0
  have uur := pos _ ur
  have tur := tiny _ ur
  have tr := tiny ρ r0
  have e1 : ρ * (8 * U) = 8 * (U * ρ) := by grind
  rw [e1, Rat.abs_of_nonneg (show 0 ≤ 8 * (U * ρ) by grind)] at h1
  have a1 := neg_le_abs (q1 - 8 * (U * ρ))
  have a1' := le_abs (q1 - 8 * (U * ρ))
  have e2 : U * (8 * (U * ρ)) = 8 * (U * (U * ρ)) := by grind
  rw [Rat.abs_of_nonneg (show 0 ≤ ρ + q1 by grind)] at hq
  have a2 := neg_le_abs (qv - (ρ + q1))
  have e3 : U * (ρ + q1) = U * ρ + U * q1 := by grind
  have uq1 : U * q1 ≤ U * (9 * (U * ρ) + ETA) := Rat.mul_le_mul_of_nonneg_left (by grind) (Rat.le_of_lt hU)
  have e4 : U * (9 * (U * ρ) + ETA) = 9 * (U * (U * ρ)) + U * ETA := by grind
  have tE := tiny ETA (Rat.le_of_lt hEt)
  -- qv >= rho (1 + 6U) - 2 ETA
  have k1 : ρ + 6 * (U * ρ) - 2 * ETA ≤ qv := by grind
  -- times w
  have k2 := Rat.mul_le_mul_of_nonneg_right k1 w0'
  have a3 := neg_le_abs (ρ * w - F)
  have e5 : (ρ + 6 * (U * ρ) - 2 * ETA) * w = ρ * w + 6 * (U * (ρ * w)) - 2 * (ETA * w) := by grind
  have k3 : F - 3 * (U * F) - ETA * w ≤ ρ * w := by grind
  have k4 : U * (F - 3 * (U * F) - ETA * w) ≤ U * (ρ * w) := Rat.mul_le_mul_of_nonneg_left k3 (Rat.le_of_lt hU)
  have e6 : U * (F - 3 * (U * F) - ETA * w) = U * F - 3 * (U * (U * F)) - U * (ETA * w) := by grind
  have uF := pos F F0
  have tuF := tiny _ uF
  have ew : 0 ≤ ETA * w := Rat.mul_nonneg (Rat.le_of_lt hEt) w0'
  have tew := tiny _ ew
  have k5 : F + 2 * (U * F) - 4 * (ETA * w) ≤ qv * w := by grind
  -- U F covers ETA w
  have b1 := le_abs (w - B)
  have uw : U * w ≤ U * (B + E) := Rat.mul_le_mul_of_nonneg_left (by grind) (Rat.le_of_lt hU)
  have e7 : U * (B + E) = U * B + U * E := by grind
  have tEE := tiny E E0
  have c1 : U * w ≤ 2 * F := by grind
  have c2 : U * (U * w) ≤ U * (2 * F) := Rat.mul_le_mul_of_nonneg_left c1 (Rat.le_of_lt hU)
  have c3 : 4 * ETA ≤ U * U := by unfold ETA U; decide +kernel
  have c4 := Rat.mul_le_mul_of_nonneg_right c3 w0'
  have e8 : U * U * w = U * (U * w) := by grind
  have e9 : U * (2 * F) = 2 * (U * F) := by grind
  have k6 : F ≤ qv * w := by grind
  -- B >= w - E
  have d1 : w - E ≤ B := by grind
  have d2 := Rat.mul_le_mul_of_nonneg_left d1 q0
  have d3 := Rat.mul_le_mul_of_nonneg_right hle E0
  have e10 : qv * (w - E) = qv * w - qv * E := by grind
  grind
/-- THE BACKWARD ERROR OF A ROW. -/
theorem back_law {S W : Nat → Nat} {A X : Nat → Nat} {n g t tw : Nat} (hn : n ≤ 16) (hA : ∀ j, A j < 2 ^ 64) (hX : ∀ j, X j < 2 ^ 64) (h0 : S 0 < 2 ^ 64) (hS : ∀ j, j < n → S (j + 1) = fsub (S j) (fmul (A j) (X j)))
    (w0 : W 0 = fabs (S 0)) (hW : ∀ j, j < n → W (j + 1) = fadd (W j) (fmul (fabs (A j)) (fabs (X j)))) (hg : val g = ((n : Rat) + 3) * (2 * U)) (ht : val t = ((n : Rat) + 3) * (32 * ETA)) (htl : t < 2 ^ 64) (ng : nn g) (nt : nn t)
    (htw : val tw = 8 * U) (ntw : nn tw) (hnz : feq (W n) 0 = false) {f Q q : Nat} (hf : f = fadd (fadd (fabs (S n)) (fmul g (W n))) t) (hQ : Q = fadd (fdiv f (W n)) (fmul (fdiv f (W n)) tw))
    (hq : q = if fgt Q 4607182418800017408 = true then 4607182418800017408 else Q) (hnan : isNan q = false) :
    fin q = true ∧ 0 ≤ val q ∧ val q ≤ 1 ∧ ∀ v, val q ≤ v → (exS (val (S 0)) (fun j => -(val (A j) * val (X j))) n).abs ≤ v * exB (val (S 0)) (fun j => -(val (A j) * val (X j))) n := by
  have hB := exB_nonneg (val (S 0)) (fun j => -(val (A j) * val (X j))) n
  have hXB := exS_le (val (S 0)) (fun j => -(val (A j) * val (X j))) n
  have f1 : fin 4607182418800017408 = true := by decide +kernel
  have v1 : val 4607182418800017408 = 1 := by decide +kernel
  have f0 : fin 0 = true := by decide +kernel
  have v0 : val 0 = 0 := by decide +kernel
  have fin1 : ∀ v, val q ≤ v → q = 4607182418800017408 → (exS (val (S 0)) (fun j => -(val (A j) * val (X j))) n).abs ≤ v * exB (val (S 0)) (fun j => -(val (A j) * val (X j))) n := fun v hv e => by
    rw [e, v1] at hv
    have := Rat.mul_le_mul_of_nonneg_right hv hB
    grind
  -- not below 0
  have nW : ∀ j, j ≤ n → nn (W j) := fun j => by
    induction j with
    | zero => intro _; rw [w0]; exact nn_fabs h0
    | succ j ih => intro hj; rw [hW j (by omega)]; exact nn_fadd (ih (by omega)) (nn_fmul (nn_fabs (hA j)) (nn_fabs (hX j)))
  have hSl : S n < 2 ^ 64 := by
    cases n with
    | zero => exact h0
    | succ n => rw [hS n (by omega)]; exact fsub_lt _ _
  have nf : nn f := by rw [hf]; exact nn_fadd (nn_fadd (nn_fabs hSl) (nn_fmul ng (nW n (Nat.le_refl _)))) nt
  have wz : ∀ s p, D64.read (W n) ≠ .number s 0 p := fun s p hr => by
    have h2 : fin (W n) = true := fin_of_read hr
    have h3 : feq (W n) 0 = true := (order_val h2 f0).2.1.2 (by rw [val_of hr, dat_zero, v0])
    rw [h3] at hnz; cases hnz
  have nq : nn (fdiv f (W n)) := nn_fdiv nf (nW n (Nat.le_refl _)) wz
  have nQ : nn Q := by rw [hQ]; exact nn_fadd nq (nn_fmul nq ntw)
  by_cases hgt : fgt Q 4607182418800017408 = true
  · rw [if_pos hgt] at hq
    refine ⟨by rw [hq]; exact f1, by rw [hq, v1]; decide +kernel, by rw [hq, v1]; exact Rat.le_refl, fun v hv => fin1 v hv hq⟩
  · rw [if_neg hgt] at hq
    subst hq
    have hfq : fin q = true := by
      rcases read_number_or q with ⟨s, m, p, h⟩ | ⟨s, h⟩ | ⟨s, t, h⟩
      · exact fin_of_read h
      · exfalso
        unfold nn at nQ
        rw [h] at nQ
        cases nQ
        refine hgt ?_
        unfold fgt Format.order
        rw [h]
        have : D64.read 4607182418800017408 = .number false 4503599627370496 (-52) := read_one
        rw [this]
        rfl
      · exfalso
        unfold isNan at hnan
        rw [h] at hnan
        cases hnan
    have hle : val q ≤ 1 := by
      have := (order_val hfq f1).1
      rw [v1] at this
      rcases Rat.le_total (a := val q) (b := 1) with h | h
      · exact h
      · by_cases h2 : (1 : Rat) < val q
        · exact absurd (this.2 h2) hgt
        · grind
    have hq0 : 0 ≤ val q := nn_val nQ hfq
    refine ⟨hfq, hq0, hle, fun v hv => ?_⟩
    rw [hQ] at hfq
    obtain ⟨p1, p2'⟩ := fadd_fin hfq
    have ff := fdiv_fin p1
    rw [hf] at ff
    obtain ⟨b1, b2, b3⟩ := bound_law hn hA hX h0 hS w0 hW hg ht htl ff
    obtain ⟨c1, c2⟩ := rest_err (by omega) hA hX h0 hS w0 hW b2 b3
    rw [← hf] at b1 ff
    have hwn : val (W n) ≠ 0 := fun h => by
      have h3 : feq (W n) 0 = true := (order_val b3 f0).2.1.2 (by rw [h, v0])
      rw [h3] at hnz; cases hnz
    have hw0 : 0 ≤ val (W n) := nn_val (nW n (Nat.le_refl _)) b3
    have hwp : 0 < val (W n) := by grind
    have d1 := fdiv_err ff b3 hwn p1
    have d2 := fmul_err p2'
    have d3 := fadd_err' (fdiv_lt _ _) (fmul_lt _ _) hfq
    rw [htw] at d2
    rw [← hQ] at d3
    have hU := U_pos
    have hEt := ETA_pos
    have hn0 : (0 : Rat) ≤ n := Rat.natCast_nonneg
    have uB := Rat.mul_nonneg (Rat.le_of_lt hU) hB
    have hEU : U * exB (val (S 0)) (fun j => -(val (A j) * val (X j))) n ≤ (n + 1) * (33 / 32) * (U * exB (val (S 0)) (fun j => -(val (A j) * val (X j))) n) + 2 * n * ETA := by
      have h1 := Rat.mul_nonneg hn0 uB
      have h2 := Rat.mul_nonneg hn0 (Rat.le_of_lt hEt)
      grind
    have := back_ineq hB b1 hEU c2 hwp (nn_val nq p1) d1 d2 d3 hq0 hle (nn_val (nn_fmul nq ntw) p2')
    have h2 := Rat.mul_le_mul_of_nonneg_right hv hB
    grind
end Sedge
end
section
/-
  Contracts: the reference's digits (layer 2): Of, Int.
-/
set_option linter.unusedSimpArgs false
set_option linter.unusedVariables false
open Go Go.RowKit Sedge
namespace Go.Proofs.Ytcmggfpcbijcjaa
theorem _root_.Sedge.IsF.val {b x : Nat} (h : IsF b x) : val b = val x := by
  cases hn : isNan b
  · rw [← h.2, canon_not hn]
  · have h1 : isNan x = true := by rw [← h.nan]; exact hn
    unfold isNan at hn h1
    obtain ⟨s, t, e1⟩ := isNaN_eq _ hn
    obtain ⟨s', t', e2⟩ := isNaN_eq _ h1
    unfold Sedge.val
    rw [e1, e2]
theorem val_all {b : Nat} (hb : b < 2 ^ 64) : dat (pNeg b) (pMag b) (pExp b) = val b ∧ pMag b < 2 ^ 64 ∧ -1074 ≤ pExp b ∧ pExp b ≤ 971 := by
  have h53 := pMag_lt b
  by_cases hk : pKind b = 0
  · have := pExp_ge b hk
    exact ⟨(val_parts hb hk).symm, by omega, this⟩
  · have hm : pMag b = 0 := by
      unfold pKind at hk
      unfold pMag
      split at hk
      · rename_i h; rw [if_pos h]
      · exact absurd rfl hk
    have he : pExp b = 0 := by
      unfold pKind at hk
      unfold pExp
      split at hk
      · rename_i h; rw [if_pos h]
      · exact absurd rfl hk
    refine ⟨?_, by omega, by omega, by omega⟩
    rw [hm, dat_zero]
    unfold Sedge.val
    rw [read_eq b hb, if_neg hk]
    split <;> rename_i h <;> first | rfl | (split at h <;> cases h)
set_option maxRecDepth 100000 in
set_option maxHeartbeats 2000000 in
/-- Of. -/
theorem of_any (b x : Nat) (w : World) (hb : IsF b x) :
   Calls Try.prog 27 #[.float .f64 b] w (fun e w' => ∃ v, e = .returned v ∧ DV w' v (val x) (-70) 70 ∧ (∀ k, dBlock v = some k → w.heap.size ≤ k) ∧ ∃ o n, w' = ext w o n) := by
  obtain ⟨h1, h2, h3, h4⟩ := val_all hb.1
  rw [hb.val] at h1
  obtain ⟨q0, hq0⟩ : ∃ q0, Hid (q0 = val x) := ⟨_, hid rfl⟩
  rw [← hq0.out] at h1 ⊢
  have hp : ∀ w', Calls Try.prog 116 #[.float .f64 b] w' (fun e w2 => e = .returned (.tuple #[.bool (pNeg b), .int .u64 (pMag b), .int .i64 (pExp b), .int .i64 (pKind b)]) ∧ w' = w2) := fun w' => parts_any b w' hb.1
  have hwh : ∀ w', Calls Try.prog 119 #[.bool (pNeg b), .int .u64 (pMag b)] w' (fun e w2 => ∃ v, e = .returned v ∧ DV w2 v (dat (pNeg b) (pMag b) 0) 0 4 ∧ (∀ k, dBlock v = some k → w'.heap.size ≤ k) ∧ ∃ o n, w2 = ext w' o n) := fun w' => whole_any (pNeg b) (pMag b) w' h2
  generalize pNeg b = N at *
  generalize pMag b = M at *
  generalize pExp b = E at *
  generalize pKind b = K at *
  have hsh : ∀ V w', DV w' V (dat N M 0) 0 4 → Calls Try.prog 32 #[V, .int .i64 E] w' (fun e w2 => ∃ v, e = .returned v ∧ DV w2 v q0 (-70) 70 ∧ (∀ b, dBlock v = some b → w'.heap.size ≤ b) ∧ ∃ o n, w2 = ext w' o n) := fun V w' hv => by
    refine (dshift_any V _ 0 4 E w' hv (by omega) (by omega) (by omega)).mono fun e w2 hh => ?_
    obtain ⟨v, a1, a2, a3, a4⟩ := hh
    refine ⟨v, a1, ?_, a3, a4⟩
    have e1 : dat N M 0 * p2 E = q0 := by
      rw [← h1]; unfold dat; rw [p2_zero]; grind
    rw [e1] at a2
    exact a2.mono (by omega) (by omega)
  clear h1 h2 h3 h4 hq0 hb
  go_enter Try.func27, Try.ntmps27
  refine seq_stop ?_
  go_wp2
  refine stop_go (fun W hW => ?_)
  have s1 : w.heap.size < W.heap.size := by rw [hW]; simp only [World.size_alloc]; omega
  have b1 : ∀ i, W.cell? ⟨w.heap.size, i, none⟩ = (#[.bool false, .slice none 0 0, .int .i64 0] : Array Value)[i]? := by intro i; rw [hW]; go_simp
  have f1 : ∀ i, W.frozen? ⟨w.heap.size, i, none⟩ = false := by intro i; rw [hW]; go_simp
  have g0 : Grew w W := by rw [hW]; exact (Grew.refl _).alloc _
  clear hW
  go_wp2_with (first | (go_at_call 116; ((with_reducible refine (hp _).mono ?_); rintro e w1 ⟨rfl, rfl⟩)) | (go_at_call 119; ((with_reducible refine (hwh _).mono ?_); rintro e w1 ⟨v, rfl, hv, hbk, o2, n2, rfl⟩; obtain ⟨vn, va, vl, vc, vE, rfl⟩ := hv.shape)) | (go_at_call 32; ((with_reducible refine (hsh _ _ hv).mono ?_); rintro e w1 ⟨u, rfl, hu, hbu, o3, n3, rfl⟩; obtain ⟨un, ua, ul, uc, uE, rfl⟩ := hu.shape)))
  rw [ext_ext] at hu
  refine bodyPost_ret (by simp [results, Try.results27, go_sem, *]; rfl) rfl ?_
  exact ⟨_, rfl, hu.ext_set3 s1 (fun k hk => by have := hbu k hk; simp only [size_ext] at this; omega) _ _ _, fun k hk => by have := hbu k hk; simp only [size_ext] at this; omega, grew_set3 g0 (Nat.le_refl _) _ _ _ _ _⟩
set_option maxRecDepth 100000 in
set_option maxHeartbeats 1000000 in
/-- Int, of what is not below 0. -/
theorem dint_any (n : Nat) (w : World) (hn : n ≤ 1000000000) :
   Calls Try.prog 33 #[.int .i64 n] w (fun e w' => ∃ v, e = .returned v ∧ DV w' v (n : Rat) 0 4 ∧ (∀ k, dBlock v = some k → w.heap.size ≤ k) ∧ ∃ o n, w' = ext w o n) := by
  have hwh : ∀ w', Calls Try.prog 119 #[.bool false, .int .u64 n] w' (fun e w2 => ∃ v, e = .returned v ∧ DV w2 v (n : Rat) 0 4 ∧ (∀ k, dBlock v = some k → w'.heap.size ≤ k) ∧ ∃ o n, w2 = ext w' o n) := fun w' => by
    have := whole_any false n w' (by omega)
    rw [show dat false n 0 = (n : Rat) by unfold dat sgn; rw [p2_zero]; simp] at this
    exact this
  have a1 : IntKind.u64.wrap (n : Int) = n := IntWalk.u64_in _ (by omega)
  have d1 : decide ((n : Int) < 0) = false := by simp
  go_enter Try.func33, Try.ntmps33
  refine seq_stop ?_
  go_wp2
  refine stop_go (fun W hW => ?_)
  have s1 : w.heap.size < W.heap.size := by rw [hW]; simp only [World.size_alloc]; omega
  have b1 : ∀ i, W.cell? ⟨w.heap.size, i, none⟩ = (#[.bool false, .slice none 0 0, .int .i64 0] : Array Value)[i]? := by intro i; rw [hW]; go_simp
  have f1 : ∀ i, W.frozen? ⟨w.heap.size, i, none⟩ = false := by intro i; rw [hW]; go_simp
  have g0 : Grew w W := by rw [hW]; exact (Grew.refl _).alloc _
  clear hW
  go_wp2_with (first | (go_at_call 119; ((with_reducible refine (hwh _).mono ?_); rintro e w1 ⟨u, rfl, hu, hbu, o3, n3, rfl⟩; obtain ⟨un, ua, ul, uc, uE, rfl⟩ := hu.shape)))
  refine bodyPost_ret (by simp [results, Try.results33, go_sem, *]; rfl) rfl ?_
  exact ⟨_, rfl, hu.ext_set3 s1 (fun k hk => by have := hbu k hk; omega) _ _ _, fun k hk => by have := hbu k hk; omega, grew_set3 g0 (Nat.le_refl _) _ _ _ _ _⟩
end Go.Proofs.Ytcmggfpcbijcjaa
end
section
/-
  Contracts: the reference's digits (layer 2): at, ends, size.
-/
set_option linter.unusedSimpArgs false
set_option linter.unusedVariables false
open Go Go.RowKit Sedge
namespace Go.Proofs.Ytcmggfpcbijcjaa
set_option maxRecDepth 100000 in
set_option maxHeartbeats 1000000 in
/-- at. -/
theorem dat_at (ng : Bool) (L : Value) (E : Int) (l : List Nat) (p : Int) (w : World) (hN : NS w L l) (hE : -1000000 ≤ E ∧ E ≤ 1000000) (hl : l.length ≤ 1000000) (hp : -1000000 ≤ p ∧ p ≤ 1000000) :
   Calls Try.prog 122 #[.agg #[.bool ng, L, .int .i64 E], .int .i64 p] w (fun e w' => e = .returned (.int .i64 (digAt l E p : Nat)) ∧ ∃ o n, w' = ext w o n) := by
  obtain ⟨sa, sc, rfl⟩ := hN.shape
  have a1 : IntKind.i64.wrap (E + (l.length : Int)) = E + l.length := IntWalk.i64_in _ (by omega)
  have a2 : IntKind.i64.wrap (p - E) = p - E := IntWalk.i64_in _ (by omega)
  by_cases h1 : p < E
  · have d1 : decide (p < E) = true := by simpa using h1
    have q := hid (show digAt l E p = 0 by unfold digAt; rw [if_pos (.inl h1)])
    clear h1
    go_enter Try.func122, Try.ntmps122
    refine seq_stop ?_
    go_wp2
    refine stop_go (fun W hW => ?_)
    have s1 : w.heap.size < W.heap.size := by rw [hW]; simp only [World.size_alloc]; omega
    have b1 : ∀ i, W.cell? ⟨w.heap.size, i, none⟩ = (#[.bool ng, .slice sa l.length sc, .int .i64 E] : Array Value)[i]? := by intro i; rw [hW]; go_simp
    have g0 : Grew w W := by rw [hW]; exact (Grew.refl _).alloc _
    clear hW
    go_wp2
    go_ret
    exact ⟨ret_int (by rw [q.out]; rfl), by (show Grew _ _; repeat (first | (with_reducible exact Grew.refl _) | (with_reducible assumption) | (with_reducible exact Grew.same_o) | (with_reducible exact Grew.app_o) | (with_reducible refine Grew.ext ?_ _ _) | (with_reducible refine Grew.alloc ?_ _) | ((with_reducible refine Grew.setCell ?_ ?_ _); rotate_left; (focus (dsimp only; first | omega | (simp only [size_ext, World.size_alloc, Array.size_append]; omega)))) | (with_reducible refine Grew.drewN ?_ _) | (with_reducible refine Grew.drew ?_)))⟩
  · have d1 : decide (p < E) = false := by simpa using h1
    by_cases h2 : E + l.length ≤ p
    · have d2 : decide (E + (l.length : Int) ≤ p) = true := by simpa using h2
      have q := hid (show digAt l E p = 0 by unfold digAt; rw [if_pos (.inr h2)])
      clear h1 h2
      go_enter Try.func122, Try.ntmps122
      refine seq_stop ?_
      go_wp2
      refine stop_go (fun W hW => ?_)
      have s1 : w.heap.size < W.heap.size := by rw [hW]; simp only [World.size_alloc]; omega
      have b1 : ∀ i, W.cell? ⟨w.heap.size, i, none⟩ = (#[.bool ng, .slice sa l.length sc, .int .i64 E] : Array Value)[i]? := by intro i; rw [hW]; go_simp
      have g0 : Grew w W := by rw [hW]; exact (Grew.refl _).alloc _
      clear hW
      go_wp2
      go_ret
      exact ⟨ret_int (by rw [q.out]; rfl), by (show Grew _ _; repeat (first | (with_reducible exact Grew.refl _) | (with_reducible assumption) | (with_reducible exact Grew.same_o) | (with_reducible exact Grew.app_o) | (with_reducible refine Grew.ext ?_ _ _) | (with_reducible refine Grew.alloc ?_ _) | ((with_reducible refine Grew.setCell ?_ ?_ _); rotate_left; (focus (dsimp only; first | omega | (simp only [size_ext, World.size_alloc, Array.size_append]; omega)))) | (with_reducible refine Grew.drewN ?_ _) | (with_reducible refine Grew.drew ?_)))⟩
    · have d2 : decide (E + (l.length : Int) ≤ p) = false := by simpa using h2
      obtain ⟨i, hi⟩ : ∃ i : Nat, p - E = i := ⟨(p - E).toNat, by omega⟩
      have hil : i < l.length := by omega
      have q := hid (show digAt l E p = l.getD i 0 by unfold digAt; rw [if_neg (by omega)]; congr 1; omega)
      rw [hi] at a2
      obtain ⟨blk, so, rfl, hblk, hc⟩ := hN.at.2.2 (by omega)
      have hci := hc i hil
      obtain ⟨x, hx⟩ : ∃ x, x = l.getD i 0 := ⟨_, rfl⟩
      rw [← hx] at hci q
      clear hx
      clear h1 h2 hc
      go_enter Try.func122, Try.ntmps122
      refine seq_stop ?_
      go_wp2
      refine stop_go (fun W hW => ?_)
      have s1 : w.heap.size < W.heap.size := by rw [hW]; simp only [World.size_alloc]; omega
      have b1 : ∀ i, W.cell? ⟨w.heap.size, i, none⟩ = (#[.bool ng, .slice (some ⟨blk, so, none⟩) l.length sc, .int .i64 E] : Array Value)[i]? := by intro i; rw [hW]; go_simp
      have g0 : Grew w W := by rw [hW]; exact (Grew.refl _).alloc _
      clear hW
      have hcW := (g0.cell hblk).trans hci
      clear hN
      go_wp2
      go_ret
      exact ⟨ret_int (by rw [q.out]), by (show Grew _ _; repeat (first | (with_reducible exact Grew.refl _) | (with_reducible assumption) | (with_reducible exact Grew.same_o) | (with_reducible exact Grew.app_o) | (with_reducible refine Grew.ext ?_ _ _) | (with_reducible refine Grew.alloc ?_ _) | ((with_reducible refine Grew.setCell ?_ ?_ _); rotate_left; (focus (dsimp only; first | omega | (simp only [size_ext, World.size_alloc, Array.size_append]; omega)))) | (with_reducible refine Grew.drewN ?_ _) | (with_reducible refine Grew.drew ?_)))⟩
/-- The places of two numbers. -/
def endF (a b : List Nat) (E F : Int) : Int := if a = [] then F else if b = [] then E else min E F
def endT (a b : List Nat) (E F : Int) : Int := if a = [] then F + b.length else if b = [] then E + a.length else max (E + a.length) (F + b.length)
set_option maxRecDepth 100000 in
set_option maxHeartbeats 2000000 in
/-- ends. -/
theorem ends_any (n1 n2 : Bool) (L1 L2 : Value) (E F : Int) (a b : List Nat) (w : World) (ha : NS w L1 a) (hb : NS w L2 b) (hE : -1000000 ≤ E ∧ E ≤ 1000000) (hF : -1000000 ≤ F ∧ F ≤ 1000000) (hla : a.length ≤ 1000000) (hlb : b.length ≤ 1000000) :
   Calls Try.prog 121 #[.agg #[.bool n1, L1, .int .i64 E], .agg #[.bool n2, L2, .int .i64 F]] w (fun e w' => e = .returned (.tuple #[.int .i64 (endF a b E F), .int .i64 (endT a b E F)]) ∧ ∃ o n, w' = ext w o n) := by
  obtain ⟨s1', c1', rfl⟩ := ha.shape
  obtain ⟨s2', c2', rfl⟩ := hb.shape
  have a1 : IntKind.i64.wrap (E + (a.length : Int)) = E + a.length := IntWalk.i64_in _ (by omega)
  have a2 : IntKind.i64.wrap (F + (b.length : Int)) = F + b.length := IntWalk.i64_in _ (by omega)
  obtain ⟨X, hX⟩ : ∃ X, X = endF a b E F := ⟨_, rfl⟩
  obtain ⟨Y, hY⟩ : ∃ Y, Y = endT a b E F := ⟨_, rfl⟩
  rw [← hX, ← hY]
  clear ha hb
  obtain ⟨la, hla'⟩ : ∃ la, la = a.length := ⟨_, rfl⟩
  obtain ⟨lb, hlb'⟩ : ∃ lb, lb = b.length := ⟨_, rfl⟩
  rw [← hla'] at a1 hla ⊢
  rw [← hlb'] at a2 hlb ⊢
  unfold endT at hY
  rw [← hla', ← hlb'] at hY
  by_cases h1 : a = []
  · subst h1
    have hla0 : la = 0 := hla'
    subst hla0
    have q1 := hid (show X = F by rw [hX]; unfold endF; rw [if_pos rfl])
    have q2 := hid (show Y = F + lb by rw [hY]; rw [if_pos rfl])
    clear hX hY hla' hlb'
    go_enter Try.func121, Try.ntmps121
    refine seq_stop ?_
    go_wp2
    refine stop_go (fun W hW => ?_)
    have s1 : w.heap.size < W.heap.size := by rw [hW]; simp only [World.size_alloc]; omega
    have b1 : ∀ i, W.cell? ⟨w.heap.size, i, none⟩ = (#[.bool n1, .slice s1' 0 c1', .int .i64 E] : Array Value)[i]? := by intro i; rw [hW]; go_simp
    have s2 : w.heap.size + 1 < W.heap.size := by rw [hW]; simp only [World.size_alloc]; omega
    have b2 : ∀ i, W.cell? ⟨w.heap.size + 1, i, none⟩ = (#[.bool n2, .slice s2' lb c2', .int .i64 F] : Array Value)[i]? := by intro i; rw [hW]; go_simp
    have g0 : Grew w W := by rw [hW]; exact ((Grew.refl _).alloc _).alloc _
    clear hW
    go_wp2
    refine wp_region_R (Grew W) [] [(0,0), (0,1), (0,2), (0,3), (0,4), (0,5), (0,6), (0,7), (0,8), (0,9)] (by kernel_rfl) (by kernel_rfl) (fun _ _ _ _ h _ => h) (by first | exact ⟨_, _, ext_drew⟩ | exact ⟨_, _, drew_ext0⟩ | (show Grew _ _; repeat (first | (with_reducible exact Grew.refl _) | (with_reducible assumption) | (with_reducible exact Grew.same_o) | (with_reducible exact Grew.app_o) | (with_reducible refine Grew.ext ?_ _ _) | (with_reducible refine Grew.alloc ?_ _) | ((with_reducible refine Grew.setCell ?_ ?_ _); rotate_left; (focus (dsimp only; first | omega | (simp only [size_ext, World.size_alloc, Array.size_append]; omega)))) | (with_reducible refine Grew.drewN ?_ _) | (with_reducible refine Grew.drew ?_)))) ?_
    go_wp2_with (first | ((with_reducible refine wpR_id ?_); first | (refine wpR_take (v := ?_) rfl rfl ?_ ?_; rotate_left; (focus (rintro w' ⟨o', n', rfl⟩; go_simp; try with_reducible rfl)); simp only [Act.put, List.setIfInBounds_toArray, List.set_cons_zero, List.set_cons_succ]) | (refine wpR_pure (v := ?_) rfl rfl ?_ ?_; rotate_left; (focus (intro w'; go_simp; try with_reducible rfl)); simp only [Act.put, List.setIfInBounds_toArray, List.set_cons_zero, List.set_cons_succ]) | (refine wpR_takeG (v := ?_) rfl rfl rfl rfl rfl ?_ ?_; rotate_left; (focus (rintro w' ⟨o', n', rfl⟩; go_simp; try with_reducible rfl)); simp only [Act.put, List.setIfInBounds_toArray, List.set_cons_zero, List.set_cons_succ]) | (refine wpR_skip rfl rfl rfl rfl rfl rfl ?_; simp only [Act.put, List.setIfInBounds_toArray, List.set_cons_zero, List.set_cons_succ]) | (refine wpR_skipU rfl rfl rfl rfl rfl ?_; simp only [Act.put, List.setIfInBounds_toArray, List.set_cons_zero, List.set_cons_succ]) | (refine wpR_do rfl rfl (fun K hK => ?_)) | (refine wpR_doG rfl rfl rfl rfl rfl (fun K hK => ?_)) | (refine wpR_last rfl rfl (fun K hK => ?_)) | (refine wpR_nil ?_)) | ((with_reducible refine wpR_go ?_ ?_); (focus (show Grew _ _; repeat (first | (with_reducible exact Grew.refl _) | (with_reducible assumption) | (with_reducible exact Grew.same_o) | (with_reducible exact Grew.app_o) | (with_reducible refine Grew.ext ?_ _ _) | (with_reducible refine Grew.alloc ?_ _) | ((with_reducible refine Grew.setCell ?_ ?_ _); rotate_left; (focus (dsimp only; first | omega | (simp only [size_ext, World.size_alloc, Array.size_append]; omega)))) | (with_reducible refine Grew.drewN ?_ _) | (with_reducible refine Grew.drew ?_))))) | ((with_reducible refine upon_id ?_); refine upon_fop rfl (by assumption) (by assumption) ?_; intro rr nn hr))
    refine bodyPost_ret (v := .tuple #[.int .i64 F, .int .i64 (F + lb)]) (by simp [results, Try.results121, go_sem, *]) rfl ?_
    exact ⟨by rw [q1.out, q2.out], by (show Grew _ _; repeat (first | (with_reducible exact Grew.refl _) | (with_reducible assumption) | (with_reducible exact Grew.same_o) | (with_reducible exact Grew.app_o) | (with_reducible refine Grew.ext ?_ _ _) | (with_reducible refine Grew.alloc ?_ _) | ((with_reducible refine Grew.setCell ?_ ?_ _); rotate_left; (focus (dsimp only; first | omega | (simp only [size_ext, World.size_alloc, Array.size_append]; omega)))) | (with_reducible refine Grew.drewN ?_ _) | (with_reducible refine Grew.drew ?_)))⟩
  · have l1 : 0 < la := by rw [hla']; exact List.length_pos_iff.2 h1
    have d1 : ((la : Int) == 0) = false := by rw [beq_eq_false_iff_ne]; omega
    by_cases h2 : b = []
    · subst h2
      have hlb0 : lb = 0 := hlb'
      subst hlb0
      have q1 := hid (show X = E by rw [hX]; unfold endF; rw [if_neg h1, if_pos rfl])
      have q2 := hid (show Y = E + la by rw [hY]; rw [if_neg h1, if_pos rfl])
      clear hX hY hla' hlb'
      go_enter Try.func121, Try.ntmps121
      refine seq_stop ?_
      go_wp2
      refine stop_go (fun W hW => ?_)
      have s1 : w.heap.size < W.heap.size := by rw [hW]; simp only [World.size_alloc]; omega
      have b1 : ∀ i, W.cell? ⟨w.heap.size, i, none⟩ = (#[.bool n1, .slice s1' la c1', .int .i64 E] : Array Value)[i]? := by intro i; rw [hW]; go_simp
      have s2 : w.heap.size + 1 < W.heap.size := by rw [hW]; simp only [World.size_alloc]; omega
      have b2 : ∀ i, W.cell? ⟨w.heap.size + 1, i, none⟩ = (#[.bool n2, .slice s2' 0 c2', .int .i64 F] : Array Value)[i]? := by intro i; rw [hW]; go_simp
      have g0 : Grew w W := by rw [hW]; exact ((Grew.refl _).alloc _).alloc _
      clear hW
      go_wp2
      refine wp_region_R (Grew W) [] [(0,0), (0,1), (0,2), (0,3), (0,4), (0,5), (0,6), (0,7), (0,8), (0,9)] (by kernel_rfl) (by kernel_rfl) (fun _ _ _ _ h _ => h) (by first | exact ⟨_, _, ext_drew⟩ | exact ⟨_, _, drew_ext0⟩ | (show Grew _ _; repeat (first | (with_reducible exact Grew.refl _) | (with_reducible assumption) | (with_reducible exact Grew.same_o) | (with_reducible exact Grew.app_o) | (with_reducible refine Grew.ext ?_ _ _) | (with_reducible refine Grew.alloc ?_ _) | ((with_reducible refine Grew.setCell ?_ ?_ _); rotate_left; (focus (dsimp only; first | omega | (simp only [size_ext, World.size_alloc, Array.size_append]; omega)))) | (with_reducible refine Grew.drewN ?_ _) | (with_reducible refine Grew.drew ?_)))) ?_
      go_wp2_with (first | ((with_reducible refine wpR_id ?_); first | (refine wpR_take (v := ?_) rfl rfl ?_ ?_; rotate_left; (focus (rintro w' ⟨o', n', rfl⟩; go_simp; try with_reducible rfl)); simp only [Act.put, List.setIfInBounds_toArray, List.set_cons_zero, List.set_cons_succ]) | (refine wpR_pure (v := ?_) rfl rfl ?_ ?_; rotate_left; (focus (intro w'; go_simp; try with_reducible rfl)); simp only [Act.put, List.setIfInBounds_toArray, List.set_cons_zero, List.set_cons_succ]) | (refine wpR_takeG (v := ?_) rfl rfl rfl rfl rfl ?_ ?_; rotate_left; (focus (rintro w' ⟨o', n', rfl⟩; go_simp; try with_reducible rfl)); simp only [Act.put, List.setIfInBounds_toArray, List.set_cons_zero, List.set_cons_succ]) | (refine wpR_skip rfl rfl rfl rfl rfl rfl ?_; simp only [Act.put, List.setIfInBounds_toArray, List.set_cons_zero, List.set_cons_succ]) | (refine wpR_skipU rfl rfl rfl rfl rfl ?_; simp only [Act.put, List.setIfInBounds_toArray, List.set_cons_zero, List.set_cons_succ]) | (refine wpR_do rfl rfl (fun K hK => ?_)) | (refine wpR_doG rfl rfl rfl rfl rfl (fun K hK => ?_)) | (refine wpR_last rfl rfl (fun K hK => ?_)) | (refine wpR_nil ?_)) | ((with_reducible refine wpR_go ?_ ?_); (focus (show Grew _ _; repeat (first | (with_reducible exact Grew.refl _) | (with_reducible assumption) | (with_reducible exact Grew.same_o) | (with_reducible exact Grew.app_o) | (with_reducible refine Grew.ext ?_ _ _) | (with_reducible refine Grew.alloc ?_ _) | ((with_reducible refine Grew.setCell ?_ ?_ _); rotate_left; (focus (dsimp only; first | omega | (simp only [size_ext, World.size_alloc, Array.size_append]; omega)))) | (with_reducible refine Grew.drewN ?_ _) | (with_reducible refine Grew.drew ?_))))) | ((with_reducible refine upon_id ?_); refine upon_fop rfl (by assumption) (by assumption) ?_; intro rr nn hr))
      refine bodyPost_ret (v := .tuple #[.int .i64 E, .int .i64 (E + la)]) (by simp [results, Try.results121, go_sem, *]) rfl ?_
      exact ⟨by rw [q1.out, q2.out], by (show Grew _ _; repeat (first | (with_reducible exact Grew.refl _) | (with_reducible assumption) | (with_reducible exact Grew.same_o) | (with_reducible exact Grew.app_o) | (with_reducible refine Grew.ext ?_ _ _) | (with_reducible refine Grew.alloc ?_ _) | ((with_reducible refine Grew.setCell ?_ ?_ _); rotate_left; (focus (dsimp only; first | omega | (simp only [size_ext, World.size_alloc, Array.size_append]; omega)))) | (with_reducible refine Grew.drewN ?_ _) | (with_reducible refine Grew.drew ?_)))⟩
    · have l2 : 0 < lb := by rw [hlb']; exact List.length_pos_iff.2 h2
      have d2 : ((lb : Int) == 0) = false := by rw [beq_eq_false_iff_ne]; omega
      have q1 := hid (show X = min E F by rw [hX]; unfold endF; rw [if_neg h1, if_neg h2])
      have q2 := hid (show Y = max (E + la) (F + lb) by rw [hY]; rw [if_neg h1, if_neg h2])
      clear hX hY hla' hlb'
      have m1 := Int.min_def E F
      go_enter Try.func121, Try.ntmps121
      refine seq_stop ?_
      go_wp2
      refine stop_go (fun W hW => ?_)
      have s1 : w.heap.size < W.heap.size := by rw [hW]; simp only [World.size_alloc]; omega
      have b1 : ∀ i, W.cell? ⟨w.heap.size, i, none⟩ = (#[.bool n1, .slice s1' la c1', .int .i64 E] : Array Value)[i]? := by intro i; rw [hW]; go_simp
      have s2 : w.heap.size + 1 < W.heap.size := by rw [hW]; simp only [World.size_alloc]; omega
      have b2 : ∀ i, W.cell? ⟨w.heap.size + 1, i, none⟩ = (#[.bool n2, .slice s2' lb c2', .int .i64 F] : Array Value)[i]? := by intro i; rw [hW]; go_simp
      have g0 : Grew w W := by rw [hW]; exact ((Grew.refl _).alloc _).alloc _
      clear hW
      go_wp2
      refine wp_region_R (Grew W) [] [(0,0), (0,1), (0,2), (0,3), (0,4), (0,5), (0,6), (0,7), (0,8), (0,9), (0,10), (0,11), (0,12), (0,13), (0,14), (0,15), (0,16), (0,17), (0,18), (0,19)] (by kernel_rfl) (by kernel_rfl) (fun _ _ _ _ h _ => h) (by first | exact ⟨_, _, ext_drew⟩ | exact ⟨_, _, drew_ext0⟩ | (show Grew _ _; repeat (first | (with_reducible exact Grew.refl _) | (with_reducible assumption) | (with_reducible exact Grew.same_o) | (with_reducible exact Grew.app_o) | (with_reducible refine Grew.ext ?_ _ _) | (with_reducible refine Grew.alloc ?_ _) | ((with_reducible refine Grew.setCell ?_ ?_ _); rotate_left; (focus (dsimp only; first | omega | (simp only [size_ext, World.size_alloc, Array.size_append]; omega)))) | (with_reducible refine Grew.drewN ?_ _) | (with_reducible refine Grew.drew ?_)))) ?_
      go_wp2_with (first | ((with_reducible refine wpR_id ?_); first | (refine wpR_take (v := ?_) rfl rfl ?_ ?_; rotate_left; (focus (rintro w' ⟨o', n', rfl⟩; go_simp; try with_reducible rfl)); simp only [Act.put, List.setIfInBounds_toArray, List.set_cons_zero, List.set_cons_succ]) | (refine wpR_pure (v := ?_) rfl rfl ?_ ?_; rotate_left; (focus (intro w'; go_simp; try with_reducible rfl)); simp only [Act.put, List.setIfInBounds_toArray, List.set_cons_zero, List.set_cons_succ]) | (refine wpR_takeG (v := ?_) rfl rfl rfl rfl rfl ?_ ?_; rotate_left; (focus (rintro w' ⟨o', n', rfl⟩; go_simp; try with_reducible rfl)); simp only [Act.put, List.setIfInBounds_toArray, List.set_cons_zero, List.set_cons_succ]) | (refine wpR_skip rfl rfl rfl rfl rfl rfl ?_; simp only [Act.put, List.setIfInBounds_toArray, List.set_cons_zero, List.set_cons_succ]) | (refine wpR_skipU rfl rfl rfl rfl rfl ?_; simp only [Act.put, List.setIfInBounds_toArray, List.set_cons_zero, List.set_cons_succ]) | (refine wpR_do rfl rfl (fun K hK => ?_)) | (refine wpR_doG rfl rfl rfl rfl rfl (fun K hK => ?_)) | (refine wpR_last rfl rfl (fun K hK => ?_)) | (refine wpR_nil ?_)) | ((with_reducible refine wpR_go ?_ ?_); (focus (show Grew _ _; repeat (first | (with_reducible exact Grew.refl _) | (with_reducible assumption) | (with_reducible exact Grew.same_o) | (with_reducible exact Grew.app_o) | (with_reducible refine Grew.ext ?_ _ _) | (with_reducible refine Grew.alloc ?_ _) | ((with_reducible refine Grew.setCell ?_ ?_ _); rotate_left; (focus (dsimp only; first | omega | (simp only [size_ext, World.size_alloc, Array.size_append]; omega)))) | (with_reducible refine Grew.drewN ?_ _) | (with_reducible refine Grew.drew ?_))))) | ((with_reducible refine upon_id ?_); refine upon_fop rfl (by assumption) (by assumption) ?_; intro rr nn hr))
      all_goals (refine bodyPost_ret (by simp [results, Try.results121, go_sem, *]; rfl) rfl ?_; exact ⟨by rw [q1.out, q2.out]; simp; omega, by (show Grew _ _; repeat (first | (with_reducible exact Grew.refl _) | (with_reducible assumption) | (with_reducible exact Grew.same_o) | (with_reducible exact Grew.app_o) | (with_reducible refine Grew.ext ?_ _ _) | (with_reducible refine Grew.alloc ?_ _) | ((with_reducible refine Grew.setCell ?_ ?_ _); rotate_left; (focus (dsimp only; first | omega | (simp only [size_ext, World.size_alloc, Array.size_append]; omega)))) | (with_reducible refine Grew.drewN ?_ _) | (with_reducible refine Grew.drew ?_)))⟩)
end Go.Proofs.Ytcmggfpcbijcjaa
end
section
/-
  Contracts: the reference's digits (layer 2): size.
-/
set_option linter.unusedSimpArgs false
set_option linter.unusedVariables false
open Go Go.RowKit Sedge
namespace Go.Proofs.Ytcmggfpcbijcjaa
def szE (f g : Nat → Nat) (n : Nat) : Int := if ds f n < ds g n then -1 else if ds g n < ds f n then 1 else 0
theorem end_le {a b : List Nat} {E F : Int} : endF a b E F ≤ endT a b E F := by
  unfold endF endT
  split
  · omega
  · split <;> omega
theorem end_bound {a b : List Nat} {E F : Int} {B : Nat} (hE : -B ≤ E ∧ E ≤ B) (hF : -B ≤ F ∧ F ≤ B) (hla : a.length ≤ B) (hlb : b.length ≤ B) : -B ≤ endF a b E F ∧ endF a b E F ≤ B ∧ endT a b E F ≤ 2 * B := by
  unfold endF endT
  split
  · omega
  · split <;> omega
set_option maxRecDepth 100000 in
set_option maxHeartbeats 2000000 in
/-- size. -/
theorem size_any (n1 n2 : Bool) (L1 L2 : Value) (E F : Int) (a b : List Nat) (w : World) (ha : NS w L1 a) (hb : NS w L2 b) (hda : Dg a) (hdb : Dg b) (hE : -400000 ≤ E ∧ E ≤ 400000) (hF : -400000 ≤ F ∧ F ≤ 400000) (hla : a.length ≤ 400000) (hlb : b.length ≤ 400000) :
   Calls Try.prog 123 #[.agg #[.bool n1, L1, .int .i64 E], .agg #[.bool n2, L2, .int .i64 F]] w (fun e w' => e = .returned (.int .i64 (szE (fun k => digAt a E (endF a b E F + k)) (fun k => digAt b F (endF a b E F + k)) (endT a b E F - endF a b E F).toNat)) ∧ ∃ o n, w' = ext w o n) := by
  obtain ⟨s1', c1', e1⟩ := ha.shape
  obtain ⟨s2', c2', e2⟩ := hb.shape
  subst e1 e2
  have hle := end_le (a := a) (b := b) (E := E) (F := F)
  have hbd := end_bound (a := a) (b := b) (E := E) (F := F) (B := 400000) (by omega) (by omega) (by omega) (by omega)
  have hends : ∀ w', Grew w w' → Calls Try.prog 121 #[.agg #[.bool n1, .slice s1' a.length c1', .int .i64 E], .agg #[.bool n2, .slice s2' b.length c2', .int .i64 F]] w' (fun e w2 => e = .returned (.tuple #[.int .i64 (endF a b E F), .int .i64 (endT a b E F)]) ∧ ∃ o n, w2 = ext w' o n) := fun w' g =>
    ends_any n1 n2 _ _ E F a b w' (ha.grew g) (hb.grew g) (by omega) (by omega) (by omega) (by omega)
  obtain ⟨f, hf⟩ : ∃ f, f = fun k : Nat => digAt a E (endF a b E F + k) := ⟨_, rfl⟩
  obtain ⟨g, hg⟩ : ∃ g, g = fun k : Nat => digAt b F (endF a b E F + k) := ⟨_, rfl⟩
  rw [← hf, ← hg]
  have hf16 : ∀ k, f k < 65536 := fun k => by rw [hf]; exact digAt_lt hda _ _
  have hg16 : ∀ k, g k < 65536 := fun k => by rw [hg]; exact digAt_lt hdb _ _
  generalize hA : endF a b E F = A at *
  generalize hT : endT a b E F = T at *
  obtain ⟨n, hn⟩ : ∃ n : Nat, T = A + n := ⟨(T - A).toNat, by omega⟩
  have hnn : (T - A).toNat = n := by omega
  rw [hnn]
  have hn2 : n ≤ 3000000 := by omega
  have hat1 : ∀ (k : Nat) w', k < n → Grew w w' → Calls Try.prog 122 #[.agg #[.bool n1, .slice s1' a.length c1', .int .i64 E], .int .i64 (A + k)] w' (fun e w2 => e = .returned (.int .i64 (f k : Nat)) ∧ ∃ o n, w2 = ext w' o n) := fun k w' hk gg => by
    rw [hf]; exact dat_at n1 _ E a (A + k) w' (ha.grew gg) (by omega) (by omega) (by omega)
  have hat2 : ∀ (k : Nat) w', k < n → Grew w w' → Calls Try.prog 122 #[.agg #[.bool n2, .slice s2' b.length c2', .int .i64 F], .int .i64 (A + k)] w' (fun e w2 => e = .returned (.int .i64 (g k : Nat)) ∧ ∃ o n, w2 = ext w' o n) := fun k w' hk gg => by
    rw [hg]; exact dat_at n2 _ F b (A + k) w' (hb.grew gg) (by omega) (by omega) (by omega)
  obtain ⟨R, hR⟩ : ∃ R, Hid (R = szE f g n) := ⟨_, hid rfl⟩
  rw [← hR.out]
  clear hf hg hE hF hla hlb ha hb hA hT hnn hle
  subst hn
  obtain ⟨la, hla'⟩ : ∃ la, la = a.length := ⟨_, rfl⟩
  obtain ⟨lb, hlb'⟩ : ∃ lb, lb = b.length := ⟨_, rfl⟩
  rw [← hla', ← hlb'] at hends ⊢
  rw [← hla'] at hat1
  rw [← hlb'] at hat2
  clear hla' hlb'
  go_enter Try.func123, Try.ntmps123
  refine seq_stop ?_
  go_wp2
  refine stop_go (fun W hW => ?_)
  have s1 : w.heap.size < W.heap.size := by rw [hW]; simp only [World.size_alloc]; omega
  have b1 : ∀ i, W.cell? ⟨w.heap.size, i, none⟩ = (#[.bool n1, .slice s1' la c1', .int .i64 E] : Array Value)[i]? := by intro i; rw [hW]; go_simp
  have s2 : w.heap.size + 1 < W.heap.size := by rw [hW]; simp only [World.size_alloc]; omega
  have b2 : ∀ i, W.cell? ⟨w.heap.size + 1, i, none⟩ = (#[.bool n2, .slice s2' lb c2', .int .i64 F] : Array Value)[i]? := by intro i; rw [hW]; go_simp
  have g0 : Grew w W := by rw [hW]; exact ((Grew.refl _).alloc _).alloc _
  clear hW
  go_wp2_with (first | (go_at_call 121; ((with_reducible refine (hends _ (Grew.trans g0 (by (show Grew _ _; repeat (first | (with_reducible exact Grew.refl _) | (with_reducible assumption) | (with_reducible exact Grew.same_o) | (with_reducible exact Grew.app_o) | (with_reducible refine Grew.ext ?_ _ _) | (with_reducible refine Grew.alloc ?_ _) | ((with_reducible refine Grew.setCell ?_ ?_ _); rotate_left; (focus (dsimp only; first | omega | (simp only [size_ext, World.size_alloc, Array.size_append]; omega)))) | (with_reducible refine Grew.drewN ?_ _) | (with_reducible refine Grew.drew ?_)))))).mono ?_); rintro e w1 ⟨rfl, o1, k1, rfl⟩)))
  refine name_any (fun V hV => ?_)
  have gV : Grew W V := by rw [← hV]; (show Grew _ _; repeat (first | (with_reducible exact Grew.refl _) | (with_reducible assumption) | (with_reducible exact Grew.same_o) | (with_reducible exact Grew.app_o) | (with_reducible refine Grew.ext ?_ _ _) | (with_reducible refine Grew.alloc ?_ _) | ((with_reducible refine Grew.setCell ?_ ?_ _); rotate_left; (focus (dsimp only; first | omega | (simp only [size_ext, World.size_alloc, Array.size_append]; omega)))) | (with_reducible refine Grew.drewN ?_ _) | (with_reducible refine Grew.drew ?_)))
  have c1 : ∀ i, V.cell? ⟨w.heap.size, i, none⟩ = (#[.bool n1, .slice s1' la c1', .int .i64 E] : Array Value)[i]? := fun i => (gV.cell s1).trans (b1 i)
  have c2 : ∀ i, V.cell? ⟨w.heap.size + 1, i, none⟩ = (#[.bool n2, .slice s2' lb c2', .int .i64 F] : Array Value)[i]? := fun i => (gV.cell s2).trans (b2 i)
  have zV := gV.below.size
  have z1 : w.heap.size < V.heap.size := by omega
  have z2 : w.heap.size + 1 < V.heap.size := by omega
  have gw : Grew w V := Grew.trans g0 gV
  clear hV gV b1 b2
  go_loopw [7] (fun c wx => ∃ (k : Nat) (P : Int), k ≤ n ∧ P + 1 = A + k ∧ c = .int .i64 P ∧ (∀ j, k ≤ j → j < n → f j = g j) ∧ ∃ o n, wx = ext V o n) (fun c _ => (intOf c - A + 1).toNat)
  case atStart => exact ⟨n, A + n - 1, Nat.le_refl _, by omega, by go_num, fun j h1 h2 => by omega, _, _, ext_zero.symm⟩
  case round =>
    obtain ⟨k, P, hk, hP, rfl, heq, o2, m2, rfl⟩ := hrel
    cases k with
    | zero =>
      have hP' : P = A - 1 := by omega
      have q : R = 0 := by
        rw [hR.out]; unfold szE
        rw [ds_congr (fun j hj => heq j (Nat.zero_le _) hj), if_neg (Nat.lt_irrefl _), if_neg (Nat.lt_irrefl _)]
      have HQ := hid q
      clear heq q hP
      go_wp2
      go_ret
      exact ⟨ret_int HQ.out.symm, by (show Grew _ _; repeat (first | (with_reducible exact Grew.refl _) | (with_reducible assumption) | (with_reducible exact Grew.same_o) | (with_reducible exact Grew.app_o) | (with_reducible refine Grew.ext ?_ _ _) | (with_reducible refine Grew.alloc ?_ _) | ((with_reducible refine Grew.setCell ?_ ?_ _); rotate_left; (focus (dsimp only; first | omega | (simp only [size_ext, World.size_alloc, Array.size_append]; omega)))) | (with_reducible refine Grew.drewN ?_ _) | (with_reducible refine Grew.drew ?_)))⟩
    | succ k =>
      have hP' : P = A + k := by omega
      clear hP
      subst hP'
      have h1 := fun w' p => hat1 k w' (by omega) (Grew.trans gw p)
      have h2 := fun w' p => hat2 k w' (by omega) (Grew.trans gw p)
      have hfk := hf16 k
      have hgk := hg16 k
      have hval : f k = g k ∨ f k < g k ∨ g k < f k := by omega
      have HE := hid heq
      obtain ⟨x, hx⟩ : ∃ x, x = f k := ⟨_, rfl⟩
      obtain ⟨y, hy⟩ : ∃ y, y = g k := ⟨_, rfl⟩
      rw [← hx] at h1 hval hfk
      rw [← hy] at h2 hval hgk
      have HX := hid hx
      have HY := hid hy
      clear heq hx hy
      rcases hval with hv | hv | hv
      · subst hv
        have d1 : ((x : Int) != (x : Int)) = false := by simp
        go_wp2
        refine wp_region_R (Grew V) [] [(0,0), (0,1), (0,3), (0,4), (1,2), (1,5), (0,6)] (by kernel_rfl) (by kernel_rfl) (fun _ _ _ _ h _ => h) (by first | exact ⟨_, _, ext_drew⟩ | exact ⟨_, _, drew_ext0⟩ | (show Grew _ _; repeat (first | (with_reducible exact Grew.refl _) | (with_reducible assumption) | (with_reducible exact Grew.same_o) | (with_reducible exact Grew.app_o) | (with_reducible refine Grew.ext ?_ _ _) | (with_reducible refine Grew.alloc ?_ _) | ((with_reducible refine Grew.setCell ?_ ?_ _); rotate_left; (focus (dsimp only; first | omega | (simp only [size_ext, World.size_alloc, Array.size_append]; omega)))) | (with_reducible refine Grew.drewN ?_ _) | (with_reducible refine Grew.drew ?_)))) ?_
        go_wp2_with (first | ((with_reducible refine wpR_id ?_); first | (refine wpR_take (v := ?_) rfl rfl ?_ ?_; rotate_left; (focus (rintro w' ⟨o', n', rfl⟩; go_simp; try with_reducible rfl)); simp only [Act.put, List.setIfInBounds_toArray, List.set_cons_zero, List.set_cons_succ]) | (refine wpR_pure (v := ?_) rfl rfl ?_ ?_; rotate_left; (focus (intro w'; go_simp; try with_reducible rfl)); simp only [Act.put, List.setIfInBounds_toArray, List.set_cons_zero, List.set_cons_succ]) | (refine wpR_takeG (v := ?_) rfl rfl rfl rfl rfl ?_ ?_; rotate_left; (focus (rintro w' ⟨o', n', rfl⟩; go_simp; try with_reducible rfl)); simp only [Act.put, List.setIfInBounds_toArray, List.set_cons_zero, List.set_cons_succ]) | (refine wpR_skip rfl rfl rfl rfl rfl rfl ?_; simp only [Act.put, List.setIfInBounds_toArray, List.set_cons_zero, List.set_cons_succ]) | (refine wpR_skipU rfl rfl rfl rfl rfl ?_; simp only [Act.put, List.setIfInBounds_toArray, List.set_cons_zero, List.set_cons_succ]) | (refine wpR_do rfl rfl (fun K hK => ?_)) | (refine wpR_doG rfl rfl rfl rfl rfl (fun K hK => ?_)) | (refine wpR_last rfl rfl (fun K hK => ?_)) | (refine wpR_nil ?_)) | ((with_reducible refine wpR_go ?_ ?_); (focus (show Grew _ _; repeat (first | (with_reducible exact Grew.refl _) | (with_reducible assumption) | (with_reducible exact Grew.same_o) | (with_reducible exact Grew.app_o) | (with_reducible refine Grew.ext ?_ _ _) | (with_reducible refine Grew.alloc ?_ _) | ((with_reducible refine Grew.setCell ?_ ?_ _); rotate_left; (focus (dsimp only; first | omega | (simp only [size_ext, World.size_alloc, Array.size_append]; omega)))) | (with_reducible refine Grew.drewN ?_ _) | (with_reducible refine Grew.drew ?_))))) | ((with_reducible refine upon_id ?_); refine upon_fop rfl (by assumption) (by assumption) ?_; intro rr nn hr) | (go_at_call 122; ((with_reducible refine (h1 _ (by (show Grew _ _; repeat (first | (with_reducible exact Grew.refl _) | (with_reducible assumption) | (with_reducible exact Grew.same_o) | (with_reducible exact Grew.app_o) | (with_reducible refine Grew.ext ?_ _ _) | (with_reducible refine Grew.alloc ?_ _) | ((with_reducible refine Grew.setCell ?_ ?_ _); rotate_left; (focus (dsimp only; first | omega | (simp only [size_ext, World.size_alloc, Array.size_append]; omega)))) | (with_reducible refine Grew.drewN ?_ _) | (with_reducible refine Grew.drew ?_))))).mono ?_); rintro e w1 ⟨rfl, oa, ka, rfl⟩)) | (go_at_call 122; ((with_reducible refine (h2 _ (by (show Grew _ _; repeat (first | (with_reducible exact Grew.refl _) | (with_reducible assumption) | (with_reducible exact Grew.same_o) | (with_reducible exact Grew.app_o) | (with_reducible refine Grew.ext ?_ _ _) | (with_reducible refine Grew.alloc ?_ _) | ((with_reducible refine Grew.setCell ?_ ?_ _); rotate_left; (focus (dsimp only; first | omega | (simp only [size_ext, World.size_alloc, Array.size_append]; omega)))) | (with_reducible refine Grew.drewN ?_ _) | (with_reducible refine Grew.drew ?_))))).mono ?_); rintro e w1 ⟨rfl, ob, kb, rfl⟩)))
        go_roundw
        case rel =>
          refine ⟨k, A + k - 1, by omega, by omega, by go_num, fun j h1 h2 => ?_, _, _, rfl⟩
          by_cases hj : j = k
          · subst hj; rw [← HX.out, ← HY.out]
          · exact HE.out j (by omega) h2
        case measure => simp [intOf]; omega
      · have d1 : ((x : Int) != (y : Int)) = true := by simp; omega
        have d2 : decide ((x : Int) < (y : Int)) = true := by simpa using hv
        have q : R = -1 := by
          rw [hR.out]; unfold szE
          rw [if_pos (ds_less hf16 (p := k) hk (by rw [← HX.out, ← HY.out]; exact hv) (fun j h1 h2 => HE.out j h1 h2))]
        have HQ := hid q
        clear q
        go_wp2
        refine wp_region_R (Grew V) [] [(0,0), (0,1), (0,3), (0,4), (1,2), (1,5), (0,6)] (by kernel_rfl) (by kernel_rfl) (fun _ _ _ _ h _ => h) (by first | exact ⟨_, _, ext_drew⟩ | exact ⟨_, _, drew_ext0⟩ | (show Grew _ _; repeat (first | (with_reducible exact Grew.refl _) | (with_reducible assumption) | (with_reducible exact Grew.same_o) | (with_reducible exact Grew.app_o) | (with_reducible refine Grew.ext ?_ _ _) | (with_reducible refine Grew.alloc ?_ _) | ((with_reducible refine Grew.setCell ?_ ?_ _); rotate_left; (focus (dsimp only; first | omega | (simp only [size_ext, World.size_alloc, Array.size_append]; omega)))) | (with_reducible refine Grew.drewN ?_ _) | (with_reducible refine Grew.drew ?_)))) ?_
        go_wp2_with (first | ((with_reducible refine wpR_id ?_); first | (refine wpR_take (v := ?_) rfl rfl ?_ ?_; rotate_left; (focus (rintro w' ⟨o', n', rfl⟩; go_simp; try with_reducible rfl)); simp only [Act.put, List.setIfInBounds_toArray, List.set_cons_zero, List.set_cons_succ]) | (refine wpR_pure (v := ?_) rfl rfl ?_ ?_; rotate_left; (focus (intro w'; go_simp; try with_reducible rfl)); simp only [Act.put, List.setIfInBounds_toArray, List.set_cons_zero, List.set_cons_succ]) | (refine wpR_takeG (v := ?_) rfl rfl rfl rfl rfl ?_ ?_; rotate_left; (focus (rintro w' ⟨o', n', rfl⟩; go_simp; try with_reducible rfl)); simp only [Act.put, List.setIfInBounds_toArray, List.set_cons_zero, List.set_cons_succ]) | (refine wpR_skip rfl rfl rfl rfl rfl rfl ?_; simp only [Act.put, List.setIfInBounds_toArray, List.set_cons_zero, List.set_cons_succ]) | (refine wpR_skipU rfl rfl rfl rfl rfl ?_; simp only [Act.put, List.setIfInBounds_toArray, List.set_cons_zero, List.set_cons_succ]) | (refine wpR_do rfl rfl (fun K hK => ?_)) | (refine wpR_doG rfl rfl rfl rfl rfl (fun K hK => ?_)) | (refine wpR_last rfl rfl (fun K hK => ?_)) | (refine wpR_nil ?_)) | ((with_reducible refine wpR_go ?_ ?_); (focus (show Grew _ _; repeat (first | (with_reducible exact Grew.refl _) | (with_reducible assumption) | (with_reducible exact Grew.same_o) | (with_reducible exact Grew.app_o) | (with_reducible refine Grew.ext ?_ _ _) | (with_reducible refine Grew.alloc ?_ _) | ((with_reducible refine Grew.setCell ?_ ?_ _); rotate_left; (focus (dsimp only; first | omega | (simp only [size_ext, World.size_alloc, Array.size_append]; omega)))) | (with_reducible refine Grew.drewN ?_ _) | (with_reducible refine Grew.drew ?_))))) | ((with_reducible refine upon_id ?_); refine upon_fop rfl (by assumption) (by assumption) ?_; intro rr nn hr) | (go_at_call 122; ((with_reducible refine (h1 _ (by (show Grew _ _; repeat (first | (with_reducible exact Grew.refl _) | (with_reducible assumption) | (with_reducible exact Grew.same_o) | (with_reducible exact Grew.app_o) | (with_reducible refine Grew.ext ?_ _ _) | (with_reducible refine Grew.alloc ?_ _) | ((with_reducible refine Grew.setCell ?_ ?_ _); rotate_left; (focus (dsimp only; first | omega | (simp only [size_ext, World.size_alloc, Array.size_append]; omega)))) | (with_reducible refine Grew.drewN ?_ _) | (with_reducible refine Grew.drew ?_))))).mono ?_); rintro e w1 ⟨rfl, oa, ka, rfl⟩)) | (go_at_call 122; ((with_reducible refine (h2 _ (by (show Grew _ _; repeat (first | (with_reducible exact Grew.refl _) | (with_reducible assumption) | (with_reducible exact Grew.same_o) | (with_reducible exact Grew.app_o) | (with_reducible refine Grew.ext ?_ _ _) | (with_reducible refine Grew.alloc ?_ _) | ((with_reducible refine Grew.setCell ?_ ?_ _); rotate_left; (focus (dsimp only; first | omega | (simp only [size_ext, World.size_alloc, Array.size_append]; omega)))) | (with_reducible refine Grew.drewN ?_ _) | (with_reducible refine Grew.drew ?_))))).mono ?_); rintro e w1 ⟨rfl, ob, kb, rfl⟩)))
        refine wp_region_R (Grew V) [] [(0,0), (0,1), (0,3), (0,4), (1,2), (1,5), (0,6)] (by kernel_rfl) (by kernel_rfl) (fun _ _ _ _ h _ => h) (by first | exact ⟨_, _, ext_drew⟩ | exact ⟨_, _, drew_ext0⟩ | (show Grew _ _; repeat (first | (with_reducible exact Grew.refl _) | (with_reducible assumption) | (with_reducible exact Grew.same_o) | (with_reducible exact Grew.app_o) | (with_reducible refine Grew.ext ?_ _ _) | (with_reducible refine Grew.alloc ?_ _) | ((with_reducible refine Grew.setCell ?_ ?_ _); rotate_left; (focus (dsimp only; first | omega | (simp only [size_ext, World.size_alloc, Array.size_append]; omega)))) | (with_reducible refine Grew.drewN ?_ _) | (with_reducible refine Grew.drew ?_)))) ?_
        go_wp2_with (first | ((with_reducible refine wpR_id ?_); first | (refine wpR_take (v := ?_) rfl rfl ?_ ?_; rotate_left; (focus (rintro w' ⟨o', n', rfl⟩; go_simp; try with_reducible rfl)); simp only [Act.put, List.setIfInBounds_toArray, List.set_cons_zero, List.set_cons_succ]) | (refine wpR_pure (v := ?_) rfl rfl ?_ ?_; rotate_left; (focus (intro w'; go_simp; try with_reducible rfl)); simp only [Act.put, List.setIfInBounds_toArray, List.set_cons_zero, List.set_cons_succ]) | (refine wpR_takeG (v := ?_) rfl rfl rfl rfl rfl ?_ ?_; rotate_left; (focus (rintro w' ⟨o', n', rfl⟩; go_simp; try with_reducible rfl)); simp only [Act.put, List.setIfInBounds_toArray, List.set_cons_zero, List.set_cons_succ]) | (refine wpR_skip rfl rfl rfl rfl rfl rfl ?_; simp only [Act.put, List.setIfInBounds_toArray, List.set_cons_zero, List.set_cons_succ]) | (refine wpR_skipU rfl rfl rfl rfl rfl ?_; simp only [Act.put, List.setIfInBounds_toArray, List.set_cons_zero, List.set_cons_succ]) | (refine wpR_do rfl rfl (fun K hK => ?_)) | (refine wpR_doG rfl rfl rfl rfl rfl (fun K hK => ?_)) | (refine wpR_last rfl rfl (fun K hK => ?_)) | (refine wpR_nil ?_)) | ((with_reducible refine wpR_go ?_ ?_); (focus (show Grew _ _; repeat (first | (with_reducible exact Grew.refl _) | (with_reducible assumption) | (with_reducible exact Grew.same_o) | (with_reducible exact Grew.app_o) | (with_reducible refine Grew.ext ?_ _ _) | (with_reducible refine Grew.alloc ?_ _) | ((with_reducible refine Grew.setCell ?_ ?_ _); rotate_left; (focus (dsimp only; first | omega | (simp only [size_ext, World.size_alloc, Array.size_append]; omega)))) | (with_reducible refine Grew.drewN ?_ _) | (with_reducible refine Grew.drew ?_))))) | ((with_reducible refine upon_id ?_); refine upon_fop rfl (by assumption) (by assumption) ?_; intro rr nn hr) | (go_at_call 122; ((with_reducible refine (h1 _ (by (show Grew _ _; repeat (first | (with_reducible exact Grew.refl _) | (with_reducible assumption) | (with_reducible exact Grew.same_o) | (with_reducible exact Grew.app_o) | (with_reducible refine Grew.ext ?_ _ _) | (with_reducible refine Grew.alloc ?_ _) | ((with_reducible refine Grew.setCell ?_ ?_ _); rotate_left; (focus (dsimp only; first | omega | (simp only [size_ext, World.size_alloc, Array.size_append]; omega)))) | (with_reducible refine Grew.drewN ?_ _) | (with_reducible refine Grew.drew ?_))))).mono ?_); rintro e w1 ⟨rfl, oc, kc, rfl⟩)) | (go_at_call 122; ((with_reducible refine (h2 _ (by (show Grew _ _; repeat (first | (with_reducible exact Grew.refl _) | (with_reducible assumption) | (with_reducible exact Grew.same_o) | (with_reducible exact Grew.app_o) | (with_reducible refine Grew.ext ?_ _ _) | (with_reducible refine Grew.alloc ?_ _) | ((with_reducible refine Grew.setCell ?_ ?_ _); rotate_left; (focus (dsimp only; first | omega | (simp only [size_ext, World.size_alloc, Array.size_append]; omega)))) | (with_reducible refine Grew.drewN ?_ _) | (with_reducible refine Grew.drew ?_))))).mono ?_); rintro e w1 ⟨rfl, od, kd, rfl⟩)))
        go_ret
        exact ⟨ret_int HQ.out.symm, by (show Grew _ _; repeat (first | (with_reducible exact Grew.refl _) | (with_reducible assumption) | (with_reducible exact Grew.same_o) | (with_reducible exact Grew.app_o) | (with_reducible refine Grew.ext ?_ _ _) | (with_reducible refine Grew.alloc ?_ _) | ((with_reducible refine Grew.setCell ?_ ?_ _); rotate_left; (focus (dsimp only; first | omega | (simp only [size_ext, World.size_alloc, Array.size_append]; omega)))) | (with_reducible refine Grew.drewN ?_ _) | (with_reducible refine Grew.drew ?_)))⟩
      · have d1 : ((x : Int) != (y : Int)) = true := by simp; omega
        have d2 : decide ((x : Int) < (y : Int)) = false := by simp; omega
        have q : R = 1 := by
          have hlt : ds g n < ds f n := ds_less hg16 (p := k) hk (by rw [← HX.out, ← HY.out]; exact hv) (fun j h1 h2 => (HE.out j h1 h2).symm)
          rw [hR.out]; unfold szE
          rw [if_neg (by omega), if_pos hlt]
        have HQ := hid q
        clear q
        go_wp2
        refine wp_region_R (Grew V) [] [(0,0), (0,1), (0,3), (0,4), (1,2), (1,5), (0,6)] (by kernel_rfl) (by kernel_rfl) (fun _ _ _ _ h _ => h) (by first | exact ⟨_, _, ext_drew⟩ | exact ⟨_, _, drew_ext0⟩ | (show Grew _ _; repeat (first | (with_reducible exact Grew.refl _) | (with_reducible assumption) | (with_reducible exact Grew.same_o) | (with_reducible exact Grew.app_o) | (with_reducible refine Grew.ext ?_ _ _) | (with_reducible refine Grew.alloc ?_ _) | ((with_reducible refine Grew.setCell ?_ ?_ _); rotate_left; (focus (dsimp only; first | omega | (simp only [size_ext, World.size_alloc, Array.size_append]; omega)))) | (with_reducible refine Grew.drewN ?_ _) | (with_reducible refine Grew.drew ?_)))) ?_
        go_wp2_with (first | ((with_reducible refine wpR_id ?_); first | (refine wpR_take (v := ?_) rfl rfl ?_ ?_; rotate_left; (focus (rintro w' ⟨o', n', rfl⟩; go_simp; try with_reducible rfl)); simp only [Act.put, List.setIfInBounds_toArray, List.set_cons_zero, List.set_cons_succ]) | (refine wpR_pure (v := ?_) rfl rfl ?_ ?_; rotate_left; (focus (intro w'; go_simp; try with_reducible rfl)); simp only [Act.put, List.setIfInBounds_toArray, List.set_cons_zero, List.set_cons_succ]) | (refine wpR_takeG (v := ?_) rfl rfl rfl rfl rfl ?_ ?_; rotate_left; (focus (rintro w' ⟨o', n', rfl⟩; go_simp; try with_reducible rfl)); simp only [Act.put, List.setIfInBounds_toArray, List.set_cons_zero, List.set_cons_succ]) | (refine wpR_skip rfl rfl rfl rfl rfl rfl ?_; simp only [Act.put, List.setIfInBounds_toArray, List.set_cons_zero, List.set_cons_succ]) | (refine wpR_skipU rfl rfl rfl rfl rfl ?_; simp only [Act.put, List.setIfInBounds_toArray, List.set_cons_zero, List.set_cons_succ]) | (refine wpR_do rfl rfl (fun K hK => ?_)) | (refine wpR_doG rfl rfl rfl rfl rfl (fun K hK => ?_)) | (refine wpR_last rfl rfl (fun K hK => ?_)) | (refine wpR_nil ?_)) | ((with_reducible refine wpR_go ?_ ?_); (focus (show Grew _ _; repeat (first | (with_reducible exact Grew.refl _) | (with_reducible assumption) | (with_reducible exact Grew.same_o) | (with_reducible exact Grew.app_o) | (with_reducible refine Grew.ext ?_ _ _) | (with_reducible refine Grew.alloc ?_ _) | ((with_reducible refine Grew.setCell ?_ ?_ _); rotate_left; (focus (dsimp only; first | omega | (simp only [size_ext, World.size_alloc, Array.size_append]; omega)))) | (with_reducible refine Grew.drewN ?_ _) | (with_reducible refine Grew.drew ?_))))) | ((with_reducible refine upon_id ?_); refine upon_fop rfl (by assumption) (by assumption) ?_; intro rr nn hr) | (go_at_call 122; ((with_reducible refine (h1 _ (by (show Grew _ _; repeat (first | (with_reducible exact Grew.refl _) | (with_reducible assumption) | (with_reducible exact Grew.same_o) | (with_reducible exact Grew.app_o) | (with_reducible refine Grew.ext ?_ _ _) | (with_reducible refine Grew.alloc ?_ _) | ((with_reducible refine Grew.setCell ?_ ?_ _); rotate_left; (focus (dsimp only; first | omega | (simp only [size_ext, World.size_alloc, Array.size_append]; omega)))) | (with_reducible refine Grew.drewN ?_ _) | (with_reducible refine Grew.drew ?_))))).mono ?_); rintro e w1 ⟨rfl, oa, ka, rfl⟩)) | (go_at_call 122; ((with_reducible refine (h2 _ (by (show Grew _ _; repeat (first | (with_reducible exact Grew.refl _) | (with_reducible assumption) | (with_reducible exact Grew.same_o) | (with_reducible exact Grew.app_o) | (with_reducible refine Grew.ext ?_ _ _) | (with_reducible refine Grew.alloc ?_ _) | ((with_reducible refine Grew.setCell ?_ ?_ _); rotate_left; (focus (dsimp only; first | omega | (simp only [size_ext, World.size_alloc, Array.size_append]; omega)))) | (with_reducible refine Grew.drewN ?_ _) | (with_reducible refine Grew.drew ?_))))).mono ?_); rintro e w1 ⟨rfl, ob, kb, rfl⟩)))
        refine wp_region_R (Grew V) [] [(0,0), (0,1), (0,3), (0,4), (1,2), (1,5), (0,6)] (by kernel_rfl) (by kernel_rfl) (fun _ _ _ _ h _ => h) (by first | exact ⟨_, _, ext_drew⟩ | exact ⟨_, _, drew_ext0⟩ | (show Grew _ _; repeat (first | (with_reducible exact Grew.refl _) | (with_reducible assumption) | (with_reducible exact Grew.same_o) | (with_reducible exact Grew.app_o) | (with_reducible refine Grew.ext ?_ _ _) | (with_reducible refine Grew.alloc ?_ _) | ((with_reducible refine Grew.setCell ?_ ?_ _); rotate_left; (focus (dsimp only; first | omega | (simp only [size_ext, World.size_alloc, Array.size_append]; omega)))) | (with_reducible refine Grew.drewN ?_ _) | (with_reducible refine Grew.drew ?_)))) ?_
        go_wp2_with (first | ((with_reducible refine wpR_id ?_); first | (refine wpR_take (v := ?_) rfl rfl ?_ ?_; rotate_left; (focus (rintro w' ⟨o', n', rfl⟩; go_simp; try with_reducible rfl)); simp only [Act.put, List.setIfInBounds_toArray, List.set_cons_zero, List.set_cons_succ]) | (refine wpR_pure (v := ?_) rfl rfl ?_ ?_; rotate_left; (focus (intro w'; go_simp; try with_reducible rfl)); simp only [Act.put, List.setIfInBounds_toArray, List.set_cons_zero, List.set_cons_succ]) | (refine wpR_takeG (v := ?_) rfl rfl rfl rfl rfl ?_ ?_; rotate_left; (focus (rintro w' ⟨o', n', rfl⟩; go_simp; try with_reducible rfl)); simp only [Act.put, List.setIfInBounds_toArray, List.set_cons_zero, List.set_cons_succ]) | (refine wpR_skip rfl rfl rfl rfl rfl rfl ?_; simp only [Act.put, List.setIfInBounds_toArray, List.set_cons_zero, List.set_cons_succ]) | (refine wpR_skipU rfl rfl rfl rfl rfl ?_; simp only [Act.put, List.setIfInBounds_toArray, List.set_cons_zero, List.set_cons_succ]) | (refine wpR_do rfl rfl (fun K hK => ?_)) | (refine wpR_doG rfl rfl rfl rfl rfl (fun K hK => ?_)) | (refine wpR_last rfl rfl (fun K hK => ?_)) | (refine wpR_nil ?_)) | ((with_reducible refine wpR_go ?_ ?_); (focus (show Grew _ _; repeat (first | (with_reducible exact Grew.refl _) | (with_reducible assumption) | (with_reducible exact Grew.same_o) | (with_reducible exact Grew.app_o) | (with_reducible refine Grew.ext ?_ _ _) | (with_reducible refine Grew.alloc ?_ _) | ((with_reducible refine Grew.setCell ?_ ?_ _); rotate_left; (focus (dsimp only; first | omega | (simp only [size_ext, World.size_alloc, Array.size_append]; omega)))) | (with_reducible refine Grew.drewN ?_ _) | (with_reducible refine Grew.drew ?_))))) | ((with_reducible refine upon_id ?_); refine upon_fop rfl (by assumption) (by assumption) ?_; intro rr nn hr) | (go_at_call 122; ((with_reducible refine (h1 _ (by (show Grew _ _; repeat (first | (with_reducible exact Grew.refl _) | (with_reducible assumption) | (with_reducible exact Grew.same_o) | (with_reducible exact Grew.app_o) | (with_reducible refine Grew.ext ?_ _ _) | (with_reducible refine Grew.alloc ?_ _) | ((with_reducible refine Grew.setCell ?_ ?_ _); rotate_left; (focus (dsimp only; first | omega | (simp only [size_ext, World.size_alloc, Array.size_append]; omega)))) | (with_reducible refine Grew.drewN ?_ _) | (with_reducible refine Grew.drew ?_))))).mono ?_); rintro e w1 ⟨rfl, oc, kc, rfl⟩)) | (go_at_call 122; ((with_reducible refine (h2 _ (by (show Grew _ _; repeat (first | (with_reducible exact Grew.refl _) | (with_reducible assumption) | (with_reducible exact Grew.same_o) | (with_reducible exact Grew.app_o) | (with_reducible refine Grew.ext ?_ _ _) | (with_reducible refine Grew.alloc ?_ _) | ((with_reducible refine Grew.setCell ?_ ?_ _); rotate_left; (focus (dsimp only; first | omega | (simp only [size_ext, World.size_alloc, Array.size_append]; omega)))) | (with_reducible refine Grew.drewN ?_ _) | (with_reducible refine Grew.drew ?_))))).mono ?_); rintro e w1 ⟨rfl, od, kd, rfl⟩)))
        go_ret
        exact ⟨ret_int HQ.out.symm, by (show Grew _ _; repeat (first | (with_reducible exact Grew.refl _) | (with_reducible assumption) | (with_reducible exact Grew.same_o) | (with_reducible exact Grew.app_o) | (with_reducible refine Grew.ext ?_ _ _) | (with_reducible refine Grew.alloc ?_ _) | ((with_reducible refine Grew.setCell ?_ ?_ _); rotate_left; (focus (dsimp only; first | omega | (simp only [size_ext, World.size_alloc, Array.size_append]; omega)))) | (with_reducible refine Grew.drewN ?_ _) | (with_reducible refine Grew.drew ?_)))⟩
end Go.Proofs.Ytcmggfpcbijcjaa
end
section
/-
  Plain: sums and differences of digits.
-/
set_option linter.unusedSimpArgs false
set_option linter.unusedVariables false
namespace Sedge
open Ieee
theorem dv_snoc (m : List Nat) (x : Nat) : dv (m ++ [x]) = dv m + x * 65536 ^ m.length := by
  rw [dv_append]; simp [dv, Nat.mul_comm]
theorem add_step {m : List Nat} {f g : Nat → Nat} {c k S : Nat} (hm : m.length = k) (hS : S = c + f k + g k) (h : dv m + c * 65536 ^ k = ds f k + ds g k) :
    dv (m ++ [S % 65536]) + S / 65536 * 65536 ^ (k + 1) = ds f (k + 1) + ds g (k + 1) := by
  rw [dv_snoc, hm]
  unfold ds
  have hd := Nat.div_add_mod S 65536
  generalize S / 65536 = q at *
  generalize S % 65536 = r at *
  rw [Nat.pow_succ]
  generalize 65536 ^ k = P at *
  have h1 : (65536 * q + r) * P = (c + f k + g k) * P := by rw [hd, hS]
  rw [Nat.add_mul, Nat.add_mul, Nat.add_mul, Nat.mul_assoc] at h1
  rw [Nat.mul_comm P 65536, Nat.mul_left_comm q]
  omega
theorem sub_step0 {m : List Nat} {f g : Nat → Nat} {c k : Nat} (hm : m.length = k) (h : dv m + ds g k = ds f k + c * 65536 ^ k) (hle : g k + c ≤ f k) :
    dv (m ++ [f k - g k - c]) + ds g (k + 1) = ds f (k + 1) + 0 * 65536 ^ (k + 1) := by
  rw [dv_snoc, hm]
  unfold ds
  obtain ⟨d, hd⟩ : ∃ d, f k = g k + c + d := ⟨f k - (g k + c), by omega⟩
  have e : f k - g k - c = d := by omega
  rw [e, hd, Nat.add_mul, Nat.add_mul]
  omega
theorem sub_step1 {m : List Nat} {f g : Nat → Nat} {c k : Nat} (hm : m.length = k) (h : dv m + ds g k = ds f k + c * 65536 ^ k) (hlt : f k < g k + c) (hg : g k < 65536) (hc : c ≤ 1) :
    dv (m ++ [f k + 65536 - g k - c]) + ds g (k + 1) = ds f (k + 1) + 1 * 65536 ^ (k + 1) := by
  rw [dv_snoc, hm]
  unfold ds
  obtain ⟨d, hd⟩ : ∃ d, f k + 65536 = g k + c + d := ⟨f k + 65536 - (g k + c), by omega⟩
  have e : f k + 65536 - g k - c = d := by omega
  rw [e, Nat.pow_succ, Nat.one_mul]
  generalize 65536 ^ k = P at *
  have h1 : (f k + 65536) * P = (g k + c + d) * P := by rw [hd]
  rw [Nat.add_mul, Nat.add_mul, Nat.add_mul] at h1
  rw [Nat.mul_comm P 65536]
  omega
theorem sub_end {m : List Nat} {f g : Nat → Nat} {c n : Nat} (hm : m.length = n) (hD : Dg m) (h : dv m + ds g n = ds f n + c * 65536 ^ n) (hle : ds g n ≤ ds f n) : dv m + ds g n = ds f n := by
  have := dv_lt hD
  rw [hm] at this
  rcases Nat.eq_zero_or_pos c with h0 | h0
  · subst h0; omega
  · have : 1 * 65536 ^ n ≤ c * 65536 ^ n := Nat.mul_le_mul_right _ h0
    omega
end Sedge
end
