/-
  Contracts: a float by its bits (layer 1's reference), math.Abs; lists that are the same; copies.
-/
import Derived.Test.YtcmggfpcbijcjaaProg
import Derived.KernelRfl
import Derived.Laws.BitsAllLaws
import Derived.Test.YtcmggfpcbijcjaaReg
set_option linter.unusedSimpArgs false
set_option linter.unusedVariables false
open Go Go.RowKit Sedge
namespace Go.Proofs.Ytcmggfpcbijcjaa
@[go_sem] theorem run_bits (b : Nat) (w : World) : Sem.run Try.prog (callFunc 129 #[.float .f64 b]) w = .ok (.value (.int .u64 b)) w := by kernel_rfl
@[go_sem] theorem run_frombits (n : Int) (w : World) : Sem.run Try.prog (callFunc 185 #[.int .u64 n]) w = .ok (.value (.float .f64 n.toNat)) w := by kernel_rfl
theorem ret_float {k : FloatKind} {a b : Nat} (h : a = b) : Ending.returned (.float k a) = .returned (.float k b) := by rw [h]
theorem ret_int {k : IntKind} {a b : Int} (h : a = b) : Ending.returned (.int k a) = .returned (.int k b) := by rw [h]
theorem ret_bool {a b : Bool} (h : a = b) : Ending.returned (.bool a) = .returned (.bool b) := by rw [h]

set_option maxRecDepth 100000 in
theorem abs_bits (b : Nat) (w : World) (hb : b < 18446744073709551616) :
   Calls Try.prog 110 #[.float .f64 b] w (fun e w' => e = .returned (.float .f64 (b % SW)) ∧ w = w') := by
  go_enter Try.func110, Try.ntmps110
  go_wp2
  go_ret
  exact ⟨rfl, rfl⟩
theorem andNot_top (b : Nat) (hb : b < 18446744073709551616) : (bits BinOp.andNot IntKind.u64 (b : Int) 9223372036854775808).toNat = b % SW := by
  have := u64_andNot_nat b 9223372036854775808 hb (by decide)
  rw [show ((9223372036854775808 : Int)) = ((9223372036854775808 : Nat) : Int) from rfl, this, Int.toNat_natCast]
  have e := Nat.and_two_pow_sub_one_eq_mod b 63
  show b &&& 9223372036854775807 = b % SW
  exact e
set_option maxRecDepth 100000 in
theorem mabs_bits (b : Nat) (w : World) (hb : b < 18446744073709551616) :
   Calls Try.prog 164 #[.float .f64 b] w (fun e w' => e = .returned (.float .f64 (b % SW)) ∧ w = w') := by
  have h := andNot_top b hb
  go_enter Try.func164, Try.ntmps164
  go_wp2
  go_ret
  exact ⟨rfl, rfl⟩
theorem abs_any (b x : Nat) (w : World) (h : IsF b x) :
   Calls Try.prog 110 #[.float .f64 b] w (fun e w' => ∃ r, e = .returned (.float .f64 r) ∧ IsF r (fabs x) ∧ w = w') :=
  (abs_bits b w h.1).mono fun _ _ ⟨he, hw⟩ => ⟨_, he, h.abs, hw⟩
theorem mabs_any (b x : Nat) (w : World) (h : IsF b x) :
   Calls Try.prog 164 #[.float .f64 b] w (fun e w' => ∃ r, e = .returned (.float .f64 r) ∧ IsF r (fabs x) ∧ w = w') :=
  (mabs_bits b w h.1).mono fun _ _ ⟨he, hw⟩ => ⟨_, he, h.abs, hw⟩

theorem parts_inf (b : Nat) (h1 : (b : Int) / 4503599627370496 % 2048 = 2047) (h2 : ((b : Int) % 4503599627370496 == 0) = true) : pMag b = 0 ∧ pExp b = 0 ∧ pKind b = 1 := by
  have e1 : expo b = 2047 := by unfold expo BN; omega
  have e2 : frac b = 0 := by have : (b : Int) % 4503599627370496 = 0 := by simpa using h2
                             unfold frac BN; omega
  simp [pMag, pExp, pKind, e1, e2]
theorem parts_nan (b : Nat) (h1 : (b : Int) / 4503599627370496 % 2048 = 2047) (h2 : ((b : Int) % 4503599627370496 == 0) = false) : pMag b = 0 ∧ pExp b = 0 ∧ pKind b = 2 := by
  have e1 : expo b = 2047 := by unfold expo BN; omega
  have e2 : frac b ≠ 0 := by have : ¬ (b : Int) % 4503599627370496 = 0 := by simpa using h2
                             unfold frac BN; omega
  simp [pMag, pExp, pKind, e1, e2]
theorem parts_sub (b : Nat) (h2 : ((b : Int) / 4503599627370496 % 2048 == 0) = true) : (pMag b : Int) = (b : Int) % 4503599627370496 ∧ pExp b = -1074 ∧ pKind b = 0 := by
  have e1 : expo b = 0 := by have : (b : Int) / 4503599627370496 % 2048 = 0 := by simpa using h2
                             unfold expo BN; omega
  simp [pMag, pExp, pKind, e1, frac, BN]
theorem parts_nor (b : Nat) (h1 : ¬ (b : Int) / 4503599627370496 % 2048 = 2047) (h2 : ((b : Int) / 4503599627370496 % 2048 == 0) = false) :
    (pMag b : Int) = (b : Int) % 4503599627370496 + 4503599627370496 ∧ pExp b = (b : Int) / 4503599627370496 % 2048 - 1075 ∧ pKind b = 0 := by
  have e1 : expo b ≠ 0 := by have : ¬ (b : Int) / 4503599627370496 % 2048 = 0 := by simpa using h2
                             unfold expo BN; omega
  have e2 : expo b ≠ 2047 := by unfold expo BN; omega
  have m1 : pMag b = frac b + BN := by simp [pMag, e1, e2]
  have m2 : pExp b = (expo b : Int) - 1075 := by simp [pExp, e1, e2]
  have m3 : pKind b = 0 := by simp [pKind, e2]
  rw [m1, m2, m3]
  refine ⟨?_, ?_, rfl⟩
  · unfold frac BN; omega
  · unfold expo BN; omega
theorem parts_neg (b : Nat) : ((b : Int) / 9223372036854775808 == 1) = pNeg b := by
  unfold pNeg SW
  rw [Bool.eq_iff_iff]
  simp only [beq_iff_eq, decide_eq_true_eq]; omega

abbrev partsV (b : Nat) : Value := .tuple #[.bool (pNeg b), .int .u64 (pMag b), .int .i64 (pExp b), .int .i64 (pKind b)]
set_option maxRecDepth 100000 in
set_option maxHeartbeats 400000 in
theorem parts_any (b : Nat) (w : World) (hb : b < 18446744073709551616) :
   Calls Try.prog 116 #[.float .f64 b] w (fun e w' => e = .returned (.tuple #[.bool (pNeg b), .int .u64 (pMag b), .int .i64 (pExp b), .int .i64 (pKind b)]) ∧ w = w') := by
  go_enter Try.func116, Try.ntmps116
  go_wp2
  · have h1 : (b : Int) / 4503599627370496 % 2048 = 2047 := by assumption
    have h2 : ((b : Int) % 4503599627370496 == 0) = true := by assumption
    obtain ⟨p1, p2, p3⟩ := parts_inf b h1 h2
    exact bodyPost_ret (v := partsV b) (by simp [results, Try.results116, go_sem, partsV, parts_neg, p1, p2, p3]) rfl ⟨rfl, rfl⟩
  · have h1 : (b : Int) / 4503599627370496 % 2048 = 2047 := by assumption
    have h2 : ((b : Int) % 4503599627370496 == 0) = false := by assumption
    obtain ⟨p1, p2, p3⟩ := parts_nan b h1 h2
    exact bodyPost_ret (v := partsV b) (by simp [results, Try.results116, go_sem, partsV, parts_neg, p1, p2, p3]) rfl ⟨rfl, rfl⟩
  · have h2 : ((b : Int) / 4503599627370496 % 2048 == 0) = true := by assumption
    obtain ⟨p1, p2, p3⟩ := parts_sub b h2
    exact bodyPost_ret (v := partsV b) (by simp [results, Try.results116, go_sem, partsV, parts_neg, p1, p2, p3]) rfl ⟨rfl, rfl⟩
  · have h1 : ¬ (b : Int) / 4503599627370496 % 2048 = 2047 := by assumption
    have h2 : ((b : Int) / 4503599627370496 % 2048 == 0) = false := by assumption
    obtain ⟨p1, p2, p3⟩ := parts_nor b h1 h2
    exact bodyPost_ret (v := partsV b) (by simp [results, Try.results116, go_sem, partsV, parts_neg, p1, p2, p3]) rfl ⟨rfl, rfl⟩

theorem kind_le (b : Nat) : pKind b = 0 ∨ pKind b = 1 ∨ pKind b = 2 := by unfold pKind; split <;> (try split) <;> simp
set_option maxRecDepth 100000 in
set_option maxHeartbeats 1000000 in
theorem same_any (a b x y : Nat) (w : World) (hx : IsF a x) (hy : IsF b y) :
   Calls Try.prog 37 #[.float .f64 a, .float .f64 b] w (fun e w' => e = .returned (.bool (decide (x = y))) ∧ w = w') := by
  have h := same_iff hx.1 hy.1
  rw [hx.2, hy.2] at h
  have H := hid h
  have ha := hx.1
  have hb := hy.1
  clear h
  by_cases e1 : a = b
  · subst e1
    have e : decide (x = y) = true := by simpa using H.out.1 (.inl rfl)
    go_enter Try.func37, Try.ntmps37
    go_wp2_with (first | (go_at_call 116; ((with_reducible refine (parts_any _ _ ha).mono ?_); rintro e w1 ⟨rfl, rfl⟩)))
    go_ret
    exact ⟨ret_bool (by rw [e]), rfl⟩
  · have e1' : ((a : Int) == (b : Int)) = false := by simp; omega
    by_cases e2 : pKind a = 2
    · have k2 : ((pKind a : Int) == 2) = true := by simp [e2]
      have hq : ((pKind b : Int) == 2) = decide (x = y) := by
        rw [Bool.eq_iff_iff]; simp only [beq_iff_eq, decide_eq_true_eq]
        constructor
        · intro h; exact H.out.1 (.inr ⟨e2, by omega⟩)
        · intro h; rcases H.out.2 h with h | h
          · exact absurd h e1
          · omega
      have Hq := hid hq
      clear hq
      have Hk := hid e2
      clear e2
      go_enter Try.func37, Try.ntmps37
      go_wp2_with (first | (go_at_call 116; ((with_reducible refine (parts_any a _ ha).mono ?_); rintro e w1 ⟨rfl, rfl⟩)) | (go_at_call 116; ((with_reducible refine (parts_any b _ hb).mono ?_); rintro e w1 ⟨rfl, rfl⟩)))
      go_ret
      exact ⟨ret_bool Hq.out, rfl⟩
    · have k2 : ((pKind a : Int) == 2) = false := by simp; omega
      have hq : decide (x = y) = false := by
        simp only [decide_eq_false_iff_not]
        intro h; rcases H.out.2 h with h | h
        · exact e1 h
        · exact e2 h.1
      have Hq := hid hq
      clear hq
      have Hk := hid e2
      clear e2
      go_enter Try.func37, Try.ntmps37
      go_wp2_with (first | (go_at_call 116; ((with_reducible refine (parts_any a _ ha).mono ?_); rintro e w1 ⟨rfl, rfl⟩)) | (go_at_call 116; ((with_reducible refine (parts_any b _ hb).mono ?_); rintro e w1 ⟨rfl, rfl⟩)))
      go_ret
      exact ⟨ret_bool Hq.out.symm, rfl⟩

/-- Are all finite? -/
def finL (l : List Nat) : Bool := l.all finB
theorem finL_take (l : List Nat) (k : Nat) (h : k < l.length) : finL (l.take (k + 1)) = (finL (l.take k) && finB (l.getD k 0)) := by
  unfold finL
  rw [List.take_succ_eq_append_getElem h, List.all_append]
  simp [List.getD_eq_getElem?_getD, h]
set_option maxRecDepth 100000 in
set_option maxHeartbeats 1000000 in
theorem finite_any (D : Value) (ws : List Nat) (w : World) (hD : FS w D ws) :
   Calls Try.prog 25 #[D] w (fun e w' => e = .returned (.bool (finL ws)) ∧ w = w') := by
  obtain ⟨a, cap, rfl⟩ := hD.shape
  have hl := hD.len
  have HD := hD.at.2
  clear hD
  have hl' : (ws.length : Int) ≤ 9223372036854775807 := by omega
  go_enter Try.func25, Try.ntmps25
  go_wp2
  go_loop [3] (fun c => ∃ k : Nat, k ≤ ws.length ∧ c = .int .i64 k ∧ finL (ws.take k) = true) (fun c => ws.length - (intOf c).toNat)
  case atStart => exact ⟨0, Nat.zero_le _, rfl, rfl⟩
  case round =>
    obtain ⟨k, hk, rfl, hf⟩ := hrel
    have Hf := hid hf
    clear hf
    by_cases hlt : k < ws.length
    · obtain ⟨blk, o, rfl, hblk, hc⟩ := HD (by omega)
      obtain ⟨b, hb, hx⟩ := hc k hlt
      clear hc
      have hb1 := hx.1
      have hkd := hx.kind
      have e0 := finL_take ws k hlt
      by_cases hf2 : pKind b = 0
      · have q : ((pKind b : Int) != 0) = false := by simp [hf2]
        have Hq := hid hf2
        have Hkd := hid hkd
        have He0 := hid e0
        clear hf2 hkd e0
        go_wp2_with (first | (go_at_call 116; ((with_reducible refine (parts_any _ _ hb1).mono ?_); rintro e w1 ⟨rfl, rfl⟩)))
        go_round
        case rel => exact ⟨k + 1, by omega, by go_num, by rw [He0.out, Hf.out, finB, ← Hkd.out, Hq.out]; rfl⟩
        case measure => simp [intOf]; omega
      · have q : ((pKind b : Int) != 0) = true := by simp [hf2]
        have Hq := hid hf2
        have Hkd := hid hkd
        have He0 := hid e0
        clear hf2 hkd e0
        go_wp2_with (first | (go_at_call 116; ((with_reducible refine (parts_any _ _ hb1).mono ?_); rintro e w1 ⟨rfl, rfl⟩)))
        go_ret
        refine ⟨ret_bool ?_, rfl⟩
        have : finB (ws.getD k 0) = false := by unfold finB; rw [← Hkd.out]; simpa using Hq.out
        unfold finL
        have hm : ws.getD k 0 ∈ ws := by rw [List.getD_eq_getElem?_getD, List.getElem?_eq_getElem hlt]; exact List.getElem_mem hlt
        symm
        rw [List.all_eq_false]
        exact ⟨_, hm, by simpa using this⟩
    · go_wp2
      go_ret
      refine ⟨ret_bool ?_, rfl⟩
      rw [← Hf.out, List.take_of_length_le (by omega)]

theorem take_snoc_eq {xs ys : List Nat} {k : Nat} (h : xs.length = ys.length) (hk : k < xs.length) (ht : xs.take k = ys.take k) :
    (xs.take (k + 1) = ys.take (k + 1)) ↔ xs.getD k 0 = ys.getD k 0 := by
  have hk' : k < ys.length := by omega
  have e1 : xs.take (k + 1) = xs.take k ++ [xs[k]] := List.take_succ_eq_append_getElem hk
  have e2 : ys.take (k + 1) = ys.take k ++ [ys[k]] := List.take_succ_eq_append_getElem hk'
  rw [e1, e2, ht, List.append_cancel_left_eq]
  simp [List.getD_eq_getElem?_getD, hk, hk']
set_option maxRecDepth 100000 in
set_option maxHeartbeats 1000000 in
theorem all_any (D E : Value) (xs ys : List Nat) (w : World) (hD : FS w D xs) (hE : FS w E ys) :
   Calls Try.prog 47 #[D, E] w (fun e w' => e = .returned (.bool (decide (xs = ys))) ∧ ∃ o n, w' = ext w o n) := by
  obtain ⟨a, cap, rfl⟩ := hD.shape
  obtain ⟨a', cap', rfl⟩ := hE.shape
  have hl := hD.len
  have hl2 := hE.len
  have HD := hD.at.2
  have HE := hE.at.2
  clear hD hE
  have hl' : (xs.length : Int) ≤ 9223372036854775807 := by omega
  by_cases hne : xs.length = ys.length
  · have hb0 : ((xs.length : Int) != (ys.length : Int)) = false := by simp; omega
    have Hne := hid hne
    have hn1 : xs.length ≤ ys.length := by omega
    clear hne
    go_enter Try.func47, Try.ntmps47
    go_wp2
    go_loopw [5] (fun c wr => ∃ k : Nat, k ≤ xs.length ∧ c = .int .i64 k ∧ xs.take k = ys.take k ∧ ∃ o n, wr = ext w o n) (fun c _ => xs.length - (intOf c).toNat)
    case atStart => exact ⟨0, Nat.zero_le _, rfl, rfl, _, _, ext_zero.symm⟩
    case round =>
      obtain ⟨k, hk, rfl, hf, oo, nn, hwr⟩ := hrel
      subst hwr
      have Hf := hid hf
      clear hf
      by_cases hlt : k < xs.length
      · obtain ⟨blk, o, rfl, hblk, hc⟩ := HD (by omega)
        obtain ⟨b, hb, hx⟩ := hc k hlt
        obtain ⟨blk', o', rfl, hblk', hc'⟩ := HE (by omega)
        obtain ⟨b', hb', hx'⟩ := hc' k (by omega)
        clear hc hc' HD HE
        obtain ⟨p, hp⟩ : ∃ p, p = xs.getD k 0 := ⟨_, rfl⟩
        obtain ⟨q, hq⟩ : ∃ q, q = ys.getD k 0 := ⟨_, rfl⟩
        rw [← hp] at hx
        rw [← hq] at hx'
        have Hp := hid hp
        have Hq := hid hq
        clear hp hq
        have hi1 : (k : Int) < (xs.length : Int) := by omega
        have hi2 : (k : Int) < (ys.length : Int) := by omega
        have hi0 : (0 : Int) ≤ (k : Int) := by omega
        go_wp2
        refine wp_region_R (Grew w) [] [(0,0), (0,1), (0,2), (0,3), (0,4), (0,5), (0,6), (0,7), (1,8), (0,9)] (by kernel_rfl) (by kernel_rfl) (fun _ _ _ _ h _ => h) (by first | exact ⟨_, _, ext_drew⟩ | exact ⟨_, _, drew_ext0⟩) ?_
        by_cases hpq : p = q
        · have hd : decide (p = q) = true := by simpa using hpq
          have Hpq := hid hpq
          clear hpq
          go_wp2_with (first | ((with_reducible refine wpR_id ?_); first | (refine wpR_take (v := ?_) rfl rfl ?_ ?_; rotate_left; (focus (rintro w' ⟨o', n', rfl⟩; go_simp; try with_reducible rfl)); simp only [Act.put, List.setIfInBounds_toArray, List.set_cons_zero, List.set_cons_succ]) | (refine wpR_pure (v := ?_) rfl rfl ?_ ?_; rotate_left; (focus (intro w'; go_simp; try with_reducible rfl)); simp only [Act.put, List.setIfInBounds_toArray, List.set_cons_zero, List.set_cons_succ]) | (refine wpR_takeG (v := ?_) rfl rfl rfl rfl rfl ?_ ?_; rotate_left; (focus (rintro w' ⟨o', n', rfl⟩; go_simp; try with_reducible rfl)); simp only [Act.put, List.setIfInBounds_toArray, List.set_cons_zero, List.set_cons_succ]) | (refine wpR_skip rfl rfl rfl rfl rfl rfl ?_; simp only [Act.put, List.setIfInBounds_toArray, List.set_cons_zero, List.set_cons_succ]) | (refine wpR_skipU rfl rfl rfl rfl rfl ?_; simp only [Act.put, List.setIfInBounds_toArray, List.set_cons_zero, List.set_cons_succ]) | (refine wpR_do rfl rfl (fun K hK => ?_)) | (refine wpR_doG rfl rfl rfl rfl rfl (fun K hK => ?_)) | (refine wpR_last rfl rfl (fun K hK => ?_)) | (refine wpR_nil ?_)) | ((with_reducible refine wpR_go ?_ ?_); (focus exact ⟨_, _, rfl⟩)) | ((with_reducible refine upon_id ?_); refine upon_fop rfl (by assumption) (by assumption) ?_; intro rr nn hr) | (go_at_call 37; ((with_reducible refine (same_any _ _ _ _ _ hx hx').mono ?_); rintro e w1 ⟨rfl, rfl⟩)))
          go_roundw
          case rel => exact ⟨k + 1, by omega, by go_num, (take_snoc_eq Hne.out hlt Hf.out).2 (by rw [← Hp.out, ← Hq.out]; exact Hpq.out), _, _, rfl⟩
          case measure => simp [intOf]; omega
        · have hd : decide (p = q) = false := by simpa using hpq
          have Hpq := hid hpq
          clear hpq
          go_wp2_with (first | ((with_reducible refine wpR_id ?_); first | (refine wpR_take (v := ?_) rfl rfl ?_ ?_; rotate_left; (focus (rintro w' ⟨o', n', rfl⟩; go_simp; try with_reducible rfl)); simp only [Act.put, List.setIfInBounds_toArray, List.set_cons_zero, List.set_cons_succ]) | (refine wpR_pure (v := ?_) rfl rfl ?_ ?_; rotate_left; (focus (intro w'; go_simp; try with_reducible rfl)); simp only [Act.put, List.setIfInBounds_toArray, List.set_cons_zero, List.set_cons_succ]) | (refine wpR_takeG (v := ?_) rfl rfl rfl rfl rfl ?_ ?_; rotate_left; (focus (rintro w' ⟨o', n', rfl⟩; go_simp; try with_reducible rfl)); simp only [Act.put, List.setIfInBounds_toArray, List.set_cons_zero, List.set_cons_succ]) | (refine wpR_skip rfl rfl rfl rfl rfl rfl ?_; simp only [Act.put, List.setIfInBounds_toArray, List.set_cons_zero, List.set_cons_succ]) | (refine wpR_skipU rfl rfl rfl rfl rfl ?_; simp only [Act.put, List.setIfInBounds_toArray, List.set_cons_zero, List.set_cons_succ]) | (refine wpR_do rfl rfl (fun K hK => ?_)) | (refine wpR_doG rfl rfl rfl rfl rfl (fun K hK => ?_)) | (refine wpR_last rfl rfl (fun K hK => ?_)) | (refine wpR_nil ?_)) | ((with_reducible refine wpR_go ?_ ?_); (focus exact ⟨_, _, rfl⟩)) | ((with_reducible refine upon_id ?_); refine upon_fop rfl (by assumption) (by assumption) ?_; intro rr nn hr) | (go_at_call 37; ((with_reducible refine (same_any _ _ _ _ _ hx hx').mono ?_); rintro e w1 ⟨rfl, rfl⟩)))
          go_ret
          refine ⟨ret_bool ?_, _, _, rfl⟩
          symm
          rw [decide_eq_false_iff_not]
          intro h
          exact Hpq.out (by rw [Hp.out, Hq.out, h])
      · go_wp2
        go_ret
        refine ⟨ret_bool ?_, _, _, rfl⟩
        symm
        rw [decide_eq_true_iff]
        have e := Hf.out
        have hn := Hne.out
        rwa [List.take_of_length_le (by omega), List.take_of_length_le (by omega)] at e
  · have hb0 : ((xs.length : Int) != (ys.length : Int)) = true := by simp; omega
    have Hne := hid hne
    clear hne
    go_enter Try.func47, Try.ntmps47
    go_wp2
    go_ret
    refine ⟨ret_bool ?_, _, _, ext_zero.symm⟩
    symm
    rw [decide_eq_false_iff_not]
    intro h
    exact Hne.out (by rw [h])
end Go.Proofs.Ytcmggfpcbijcjaa
