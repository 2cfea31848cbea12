/-
  Texts laid one behind the other (a claim has at most 60 files): LawSums, Dense, Aw22, Clear, LawRest, Head.
-/
import Derived.Test.YtcmggfpcbijcjaaRows
import Derived.ProofKit
import Derived.Test.YtcmggfpcbijcjaaQResidRest1
import Derived.Test.YtcmggfpcbijcjaaQResidRest2
import Derived.Test.YtcmggfpcbijcjaaQResidRest3
import Derived.Test.YtcmggfpcbijcjaaQResidRest4
import Derived.Test.YtcmggfpcbijcjaaQResidRest5
import Derived.Test.YtcmggfpcbijcjaaQResidRest6
import Derived.Test.YtcmggfpcbijcjaaQResidRest7
import Derived.Test.YtcmggfpcbijcjaaQResidRest8
import Derived.Test.YtcmggfpcbijcjaaQResidRest9
section
/-
  The law SumsLists: its example, its walk.
-/
set_option linter.unusedSimpArgs false
set_option linter.unusedVariables false
open Go Go.RowKit Sedge
namespace Go.Proofs.Ytcmggfpcbijcjaa
def L123 : List Nat := [4607182418800017408, 4611686018427387904, 4613937818241073152]
def L456 : List Nat := [4616189618054758400, 4617315517961601024, 4618441417868443648]
theorem wf_small (ws : List Nat) (off n inc : Int) (h1 : I64 off) (h2 : I64 n) (h3 : I64 inc) : VecM.wf ⟨ws, off, n, inc⟩ := ⟨h1, h2, h3⟩
theorem i64_small {x : Int} (h : -1000000 ≤ x ∧ x ≤ 1000000) : I64 x := by unfold I64; omega
theorem most_ex (D : Value) (w : World) (hD : FS w D L123) :
    Calls Try.prog 127 #[.agg #[D, .int .i64 0, .int .i64 3, .int .i64 1]] w (fun e w' => e = .returned (.tuple #[.int .i64 2, .int .i64 0]) ∧ ∃ o n, w' = ext w o n) := by
  have h := most_ok ⟨L123, 0, 3, 1⟩ D w hD (wf_small _ _ _ _ (i64_small (by decide)) (i64_small (by decide)) (i64_small (by decide))) (by decide +kernel)
  have e : mostTo ⟨L123, 0, 3, 1⟩ (Int.toNat 3) = 2 := by decide +kernel
  simp only [e] at h
  exact h
theorem dot_ex (D E : Value) (w : World) (hD : FS w D L123) (hE : FS w E L456) :
    Calls Try.prog 128 #[.agg #[D, .int .i64 0, .int .i64 3, .int .i64 1], .agg #[E, .int .i64 0, .int .i64 3, .int .i64 1]] w
      (fun e w' => ∃ b, e = .returned (.tuple #[.float .f64 b, .int .i64 0]) ∧ IsF b 4629700416936869888 ∧ ∃ o n, w' = ext w o n) := by
  have hw : ∀ ws, VecM.wf ⟨ws, 0, 3, 1⟩ := fun ws => wf_small _ _ _ _ (i64_small (by decide)) (i64_small (by decide)) (i64_small (by decide))
  have h := dot_ok ⟨L123, 0, 3, 1⟩ ⟨L456, 0, 3, 1⟩ D E w hD hE (hw _) (hw _) (by decide +kernel) (by decide +kernel) rfl
  have e : dotTo ⟨L123, 0, 3, 1⟩ ⟨L456, 0, 3, 1⟩ (Int.toNat 3) = 4629700416936869888 := by decide +kernel
  simp only [e] at h
  exact h
theorem eq_fact {r s X Y : Nat} (hr : IsF r X) (hs : IsF s Y) : (FloatKind.f64.format.order r s == some .eq) = feq X Y := by
  unfold feq; rw [← hr.order hs]; rfl
theorem eq_is {r s X Y : Nat} (hr : IsF r X) (hs : IsF s Y) {v : Bool} (h : feq X Y = v) : (FloatKind.f64.format.order r s == some .eq) = v := (eq_fact hr hs).trans h
set_option maxRecDepth 100000 in
set_option maxHeartbeats 1000000 in
theorem awake05 (w : World) : Calls Try.prog 35 #[] w (fun e w' => e = .returned (.bool true) ∧ ∃ o n, w' = ext w o n) := by
  have h1 : ∀ x ∈ L123, IsF x x := by decide +kernel
  have h2 : ∀ x ∈ L456, IsF x x := by decide +kernel
  have H1 := hid h1
  have H2 := hid h2
  clear h1 h2
  go_enter Try.func35, Try.ntmps35
  go_wp2_with (first | (go_at_call 127; ((with_reducible refine (most_ex _ _ ?_).mono ?_); (focus (repeat (first | exact FS.lit L123 (by decide) H1.out 3 _ (by simp only [size_ext, World.size_alloc]) | exact FS.lit L123 (by decide) H1.out 3 _ rfl | refine FS.alloc ?_ _ | refine FS.ext ?_ _ _))); rintro e w1 ⟨rfl, o1, n1, rfl⟩)) | (go_at_call 128; ((with_reducible refine (dot_ex _ _ _ ?_ ?_).mono ?_); (focus (repeat (first | exact FS.lit L123 (by decide) H1.out 3 _ (by simp only [size_ext, World.size_alloc]) | exact FS.lit L123 (by decide) H1.out 3 _ rfl | refine FS.alloc ?_ _ | refine FS.ext ?_ _ _))); (focus (repeat (first | exact FS.lit L456 (by decide) H2.out 3 _ (by simp only [size_ext, World.size_alloc]) | exact FS.lit L456 (by decide) H2.out 3 _ rfl | refine FS.alloc ?_ _ | refine FS.ext ?_ _ _))); rintro e w1 ⟨b, rfl, hb, o1, n1, rfl⟩; have q : (FloatKind.f64.format.order b 4629700416936869888 == some .eq) = true := eq_is hb (Y := 4629700416936869888) (by decide +kernel) (by decide +kernel))))
  go_ret
  exact ⟨rfl, by (show Grew _ _; repeat (first | (with_reducible exact Grew.refl _) | (with_reducible assumption) | (with_reducible refine Grew.ext ?_ _ _) | (with_reducible refine Grew.alloc ?_ _) | ((with_reducible refine Grew.setCell ?_ ?_ _); rotate_left; (focus (dsimp only; first | omega | (simp only [size_ext, World.size_alloc, Array.size_append]; omega)))) | (with_reducible refine Grew.drewN ?_ _) | (with_reducible refine Grew.drew ?_)))⟩
theorem fsumTo_length (l : List Nat) : fsumTo l l.length = fsumTo l l.length := rfl
set_option maxRecDepth 100000 in
set_option maxHeartbeats 1000000 in
theorem sumsLists_any (D : Value) (ws : List Nat) (w : World) (hD : FS w D ws) :
    Calls Try.prog 4 #[D] w (fun e w' => e = .returned (.bool true) ∧ ∃ o n, w' = ext w o n) := by
  obtain ⟨a, cap, rfl⟩ := hD.shape
  have hl := hD.len
  have HD := hD.at.2
  have hl' : (ws.length : Int) ≤ 9223372036854775807 := by omega
  by_cases h100 : (100 : Int) < (ws.length : Int)
  · go_enter Try.func4, Try.ntmps4
    go_wp2_with (first | (go_at_call 35; ((with_reducible refine (awake05 _).mono ?_); rintro e w1 ⟨rfl, o1, n1, rfl⟩)))
    go_ret
    exact ⟨rfl, by (show Grew _ _; repeat (first | (with_reducible exact Grew.refl _) | (with_reducible assumption) | (with_reducible refine Grew.ext ?_ _ _) | (with_reducible refine Grew.alloc ?_ _) | ((with_reducible refine Grew.setCell ?_ ?_ _); rotate_left; (focus (dsimp only; first | omega | (simp only [size_ext, World.size_alloc, Array.size_append]; omega)))) | (with_reducible refine Grew.drewN ?_ _) | (with_reducible refine Grew.drew ?_)))⟩
  · go_enter Try.func4, Try.ntmps4
    go_wp2_with (first | (go_at_call 35; ((with_reducible refine (awake05 _).mono ?_); rintro e w1 ⟨rfl, o1, n1, rfl⟩)))
    go_loopw [3, 4] (fun s c wr => ∃ k b : Nat, k ≤ ws.length ∧ c = .int .i64 k ∧ s = .float .f64 b ∧ IsF b (fsumTo ws k) ∧ ∃ o n, wr = ext w o n) (fun _ c _ => ws.length - (intOf c).toNat)
    case atStart => exact ⟨0, 0, Nat.zero_le _, rfl, rfl, isF_zero, _, _, rfl⟩
    case round =>
      obtain ⟨k, s, hk, rfl, rfl, hs, oo, nn, hwr⟩ := hrel
      subst hwr
      by_cases hlt : k < ws.length
      · obtain ⟨blk, o, rfl, hblk, hc⟩ := HD (by omega)
        obtain ⟨b, hb, hx⟩ := hc k hlt
        clear hc HD
        go_wp2_with (first | (go_at_call 36; ((with_reducible refine (plus_any _ _ _ _ _ hs hx).mono ?_); rintro e w1 ⟨rr, rfl, hr, o1, n1, rfl⟩)))
        go_roundw
        case rel => exact ⟨k + 1, rr, by omega, by go_num, rfl, hr, _, _, rfl⟩
        case measure => simp [intOf]; omega
      · have e : k = ws.length := by omega
        subst e
        have d1 : decide (fsumTo ws ws.length = fsumTo ws ws.length) = true := by simp
        have d2 : decide (fgreatest ws = fgreatest ws) = true := by simp
        clear HD
        go_wp2_with (first | (go_at_call 38; ((with_reducible refine (sum_any _ ws _ ?_).mono ?_); (focus (first | (with_reducible assumption) | (with_reducible refine FS.ext ?_ _ _; with_reducible assumption) | (with_reducible refine IS.ext ?_ _ _; with_reducible assumption) | (refine hDu _ ?_; with_reducible assumption) | (refine hOu _ ?_; with_reducible assumption) | (refine hDa _ ?_; with_reducible assumption) | (refine hDb _ ?_; with_reducible assumption) | (refine hDc _ ?_; with_reducible assumption) | (refine hDd _ ?_; with_reducible assumption) | (refine FW.fs ?_ (by omega) _; with_reducible assumption) | (refine WS.fs ?_; with_reducible assumption) | (refine FW.fs ?_ (by omega) _; assumption) | omega | assumption)); rintro e w1 ⟨r1, rfl, hr1, o1, n1, rfl⟩)) | (go_at_call 39; ((with_reducible refine (greatest_any _ ws _ ?_).mono ?_); (focus (first | (with_reducible assumption) | (with_reducible refine FS.ext ?_ _ _; with_reducible assumption) | (with_reducible refine IS.ext ?_ _ _; with_reducible assumption) | (refine hDu _ ?_; with_reducible assumption) | (refine hOu _ ?_; with_reducible assumption) | (refine hDa _ ?_; with_reducible assumption) | (refine hDb _ ?_; with_reducible assumption) | (refine hDc _ ?_; with_reducible assumption) | (refine hDd _ ?_; with_reducible assumption) | (refine FW.fs ?_ (by omega) _; with_reducible assumption) | (refine WS.fs ?_; with_reducible assumption) | (refine FW.fs ?_ (by omega) _; assumption) | omega | assumption)); rintro e w1 ⟨r2, rfl, hr2, rfl⟩)) | (go_at_call 40; ((with_reducible refine (rgreatest_any _ ws _ ?_).mono ?_); (focus (first | (with_reducible assumption) | (with_reducible refine FS.ext ?_ _ _; with_reducible assumption) | (with_reducible refine IS.ext ?_ _ _; with_reducible assumption) | (refine hDu _ ?_; with_reducible assumption) | (refine hOu _ ?_; with_reducible assumption) | (refine hDa _ ?_; with_reducible assumption) | (refine hDb _ ?_; with_reducible assumption) | (refine hDc _ ?_; with_reducible assumption) | (refine hDd _ ?_; with_reducible assumption) | (refine FW.fs ?_ (by omega) _; with_reducible assumption) | (refine WS.fs ?_; with_reducible assumption) | (refine FW.fs ?_ (by omega) _; assumption) | omega | assumption)); rintro e w1 ⟨r3, rfl, hr3, o1, n1, rfl⟩)) | (go_at_call 37; first | ((with_reducible refine (same_any _ _ _ _ _ hr1 hs).mono ?_); rintro e w1 ⟨rfl, rfl⟩) | ((with_reducible refine (same_any _ _ _ _ _ hr2 hr3).mono ?_); rintro e w1 ⟨rfl, rfl⟩)) | (go_at_call 35; ((with_reducible refine (awake05 _).mono ?_); rintro e w1 ⟨rfl, o1, n1, rfl⟩)))
        go_ret
        exact ⟨rfl, by (show Grew _ _; repeat (first | (with_reducible exact Grew.refl _) | (with_reducible assumption) | (with_reducible refine Grew.ext ?_ _ _) | (with_reducible refine Grew.alloc ?_ _) | ((with_reducible refine Grew.setCell ?_ ?_ _); rotate_left; (focus (dsimp only; first | omega | (simp only [size_ext, World.size_alloc, Array.size_append]; omega)))) | (with_reducible refine Grew.drewN ?_ _) | (with_reducible refine Grew.drew ?_)))⟩
end Go.Proofs.Ytcmggfpcbijcjaa
end
section
/-
  Contract: view.Dense with its numbers written out; the example of layer 4.
-/
set_option linter.unusedSimpArgs false
set_option linter.unusedVariables false
open Go Go.RowKit Sedge
namespace Go.Proofs.Ytcmggfpcbijcjaa
/-- The list that Dense makes. -/
def denseTo (r c : Nat) (l : List Nat) (k : Nat) : List Nat := writes (List.replicate (r * c) 0) (fun k => k / c + k % c * r) (fun k => l.getD k 0) k
def denseL (r c : Nat) (l : List Nat) : List Nat := denseTo r c l (min l.length (r * c))
set_option maxRecDepth 100000 in
set_option maxHeartbeats 1000000 in
/-- view.Dense, of sizes within 64. -/
theorem dense_any (r c : Nat) (aL : Option Addr) (ls : List Nat) (w : World) (hL : FS w (.slice aL ls.length ls.length) ls) (hr : r ≤ 64) (hc : c ≤ 64) (hr1 : 1 ≤ r) (hc1 : 1 ≤ c) (hlen : ls.length = r * c) :
   Calls Try.prog 69 #[.int .i64 r, .int .i64 c, .slice aL ls.length ls.length] w (fun e w' => ∃ v, e = .returned (.agg #[v, .int .i64 0, .int .i64 r, .int .i64 c, .int .i64 r]) ∧ WS w' w.heap.size v (denseL r c ls) ∧ ∃ o n, w' = ext w o n) := by
  have hm : r * c ≤ 64 * 64 := Nat.mul_le_mul hr hc
  have h2 : IntKind.i64.wrap ((r : Int) * c) = (r : Int) * c := IntWalk.i64_in _ (by rw [← Int.natCast_mul]; omega)
  have hlL := hL.len
  have d1 : decide ((r : Int) < 0) = false := by simp
  have d2 : decide ((c : Int) < 0) = false := by simp
  have d3 : decide ((64 : Int) < (r : Int)) = false := by simp; omega
  have d4 : decide ((64 : Int) < (c : Int)) = false := by simp; omega
  have d5 : (ls.length : Int) = (r : Int) * c := by rw [hlen, Int.natCast_mul]
  have d6 : decide ((1 : Int) ≤ (r : Int)) = true := by simp; omega
  go_enter Try.func69, Try.ntmps69
  refine seq_stop ?_
  go_wp2
  refine stop_go (fun W hW => ?_)
  have s1 : w.heap.size < W.heap.size := by rw [hW]; simp only [World.size_alloc]; omega
  have b1 : ∀ i, W.cell? ⟨w.heap.size, i, none⟩ = (#[.slice none 0 0, .int .i64 0, .int .i64 0, .int .i64 0, .int .i64 0] : Array Value)[i]? := by intro i; rw [hW]; go_simp
  have f1 : ∀ i, W.frozen? ⟨w.heap.size, i, none⟩ = false := by intro i; rw [hW]; go_simp
  have g0 : Grew w W := by rw [hW]; exact (Grew.refl _).alloc _
  clear hW
  have hLW : FS W (.slice aL ls.length ls.length) ls := hL.grew g0
  go_wp2_with (at_make; refine make_f (L := (r : Int) * (c : Int)) finfo (Grew.refl W) _ _ rfl rfl (r * c) (Int.natCast_mul r c).symm rfl rfl (by omega) ?_; intro oo nn k hk ho; have hF := ho.made)
  refine name_any (fun V hV => ?_)
  have gV : Grew W V := by rw [← hV]; (show Grew _ _; repeat (first | (with_reducible exact Grew.refl _) | (with_reducible assumption) | (with_reducible refine Grew.ext ?_ _ _) | (with_reducible refine Grew.alloc ?_ _) | ((with_reducible refine Grew.setCell ?_ ?_ _); rotate_left; (focus (dsimp only; first | omega | (simp only [size_ext, World.size_alloc, Array.size_append]; omega)))) | (with_reducible refine Grew.drewN ?_ _) | (with_reducible refine Grew.drew ?_)))
  have sV := gV.below.size
  have k1 : w.heap.size < V.heap.size := by omega
  have k3 : W.heap.size + oo.size < V.heap.size := by rw [← hV]; simp only [World.size_alloc, size_ext]; omega
  have c1 : ∀ i, V.cell? ⟨w.heap.size, i, none⟩ = (#[.slice none 0 0, .int .i64 0, .int .i64 0, .int .i64 0, .int .i64 0] : Array Value)[i]? := fun i => (gV.cell s1).trans (b1 i)
  have z1 : ∀ i, V.frozen? ⟨w.heap.size, i, none⟩ = false := fun i => (gV.frozen s1).trans (f1 i)
  have c3 : ∀ i, V.cell? ⟨W.heap.size + oo.size, i, none⟩ = (#[.slice (some ⟨k, 0, none⟩) (r * c) (r * c), .int .i64 0, .int .i64 r, .int .i64 c, .int .i64 r] : Array Value)[i]? := by subst hV; intro i; go_simp
  have hFV : FW V k (List.replicate (r * c) 0) := by rw [← hV]; (repeat (first | (with_reducible assumption) | ((with_reducible refine FW.ext_set ?_ ?_ ?_ _); rotate_left; (focus (simp only [size_setCell', World.size_alloc, size_ext, size_upd]; omega)); (focus (dsimp only; omega))) | ((with_reducible refine FW.setCell_ne ?_ ?_ _); rotate_left; (focus (dsimp only; omega))) | (with_reducible refine FW.ext ?_ _ _) | (with_reducible refine FW.alloc ?_ _)))
  have hLV : FS V (.slice aL ls.length ls.length) ls := hLW.grew gV
  have gl := hFV.lt
  have q1 : w.heap.size ≠ k := by omega
  have q3 : W.heap.size + oo.size ≠ k := by have := hF.lt; simp only [size_ext] at this; omega
  have HL := hid hlen
  clear hV b1 f1 hL ho
  go_loopw [43] (fun s wr => ∃ (i : Nat) (cs : Array Value) (o : Array Obj) (n : Nat), i ≤ r * c ∧ s = .int .i64 i ∧ wr = ext (upd V k cs) o n ∧ CF cs (denseTo r c ls i)) (fun s _ => r * c - (intOf s).toNat)
  case atStart =>
    obtain ⟨cs, h1, h2⟩ := hFV.self
    exact ⟨0, cs, #[], _, Nat.zero_le _, rfl, by rw [h1]; exact ext_zero.symm, h2⟩
  case round =>
    obtain ⟨i, cs, o2, n2, hi, rfl, hwr, hcs⟩ := hrel
    subst hwr
    by_cases hlt : i < r * c
    · have e1 : i / c < r := by rw [Nat.div_lt_iff_lt_mul (by omega)]; exact hlt
      have e2 : i % c < c := Nat.mod_lt _ (by omega)
      have e3 : i % c * r + r ≤ c * r := by have := Nat.mul_le_mul_right r e2; rw [Nat.succ_mul] at this; exact this
      have e4 : c * r = r * c := Nat.mul_comm c r
      obtain ⟨p, hp⟩ : ∃ p : Nat, p = i / c := ⟨_, rfl⟩
      obtain ⟨q, hq⟩ : ∃ q : Nat, q = i % c := ⟨_, rfl⟩
      rw [← hp] at e1
      rw [← hq] at e2 e3
      have hq1 : (i : Int).tdiv c = (p : Int) := by rw [hp]; rfl
      have hq2 : (i : Int).tmod c = (q : Int) := by rw [hq]; rfl
      have hq3 : (i : Int) / c = (p : Int) := by rw [hp]; rfl
      have hq4 : (i : Int) % c = (q : Int) := by rw [hq]; rfl
      have m0 : (q : Int) * r = ((q * r : Nat) : Int) := (Int.natCast_mul q r).symm
      have w1 : IntKind.i64.wrap ((q : Int) * r) = (q : Int) * r := IntWalk.i64_in _ (by omega)
      have w2 : IntKind.i64.wrap ((p : Int) + (q : Int) * r) = (p : Int) + (q : Int) * r := IntWalk.i64_in _ (by omega)
      have n0 : ((p : Int) + (q : Int) * r).toNat = p + q * r := by omega
      have n1 : 0 ≤ (p : Int) + (q : Int) * r := by omega
      have n3 : (p : Int) + (q : Int) * r < ((r * c : Nat) : Int) := by omega
      have n2' : (c : Int) ≠ 0 := by omega
      have n6 : (p : Int) + (q : Int) * r < (r : Int) * c := by rw [← Int.natCast_mul r c]; exact n3
      have n8 : p + q * r < r * c := by omega
      have n5 : ¬ c = 0 := by omega
      have w0 : IntKind.i64.wrap (p : Int) = p := IntWalk.i64_in _ (by omega)
      have w3 : IntKind.i64.wrap (q : Int) = q := IntWalk.i64_in _ (by omega)
      have n4 : ((c : Int) == 0) = false := by simp; omega
      have fz : ∀ i, V.frozen? ⟨k, i, none⟩ = false := hFV.notFrozen
      have hlen2 : (denseTo r c ls i).length = r * c := by simp [denseTo]
      obtain ⟨r0, hr0, _⟩ := (hFV.mk' hcs o2 n2).get (i := p + q * r) (by rw [hlen2]; omega)
      have hr1 := (cell_ext (by simpa using gl)).symm.trans hr0
      obtain ⟨blk, o, rfl, hblk, hc⟩ := hLW.at.2 (by omega)
      obtain ⟨b, hb0, hf⟩ := hc i (by omega)
      have hb := (gV.cell hblk).trans hb0
      have qb : blk ≠ k := by omega
      have kb : blk < V.heap.size := by omega
      have Hp := hid hp
      have Hq := hid hq
      clear hb0 hc hr0 m0 hp hq
      go_wp2
      refine wp_region_R (Over V k) [] [(0,0), (0,1), (0,2), (0,3), (0,4), (0,5), (0,6), (0,7), (0,8), (0,9), (0,10), (0,11), (0,12), (0,13), (1,14)] (by kernel_rfl) (by kernel_rfl) (fun _ _ _ _ h _ => h) ⟨_, _, _, ext_drew⟩ ?_
      go_wp2_with (first | ((with_reducible refine wpR_id ?_); first | (refine wpR_take (v := ?_) rfl rfl ?_ ?_; rotate_left; (focus (rintro w' ⟨cs', o', n', rfl⟩; go_simp; try with_reducible rfl)); simp only [Act.put, List.setIfInBounds_toArray, List.set_cons_zero, List.set_cons_succ]) | (refine wpR_pure (v := ?_) rfl rfl ?_ ?_; rotate_left; (focus (intro w'; go_simp; try with_reducible rfl)); simp only [Act.put, List.setIfInBounds_toArray, List.set_cons_zero, List.set_cons_succ]) | (refine wpR_takeG (v := ?_) rfl rfl rfl rfl rfl ?_ ?_; rotate_left; (focus (rintro w' ⟨cs', o', n', rfl⟩; go_simp; try with_reducible rfl)); simp only [Act.put, List.setIfInBounds_toArray, List.set_cons_zero, List.set_cons_succ]) | (refine wpR_skip rfl rfl rfl rfl rfl rfl ?_; simp only [Act.put, List.setIfInBounds_toArray, List.set_cons_zero, List.set_cons_succ]) | (refine wpR_skipU rfl rfl rfl rfl rfl ?_; simp only [Act.put, List.setIfInBounds_toArray, List.set_cons_zero, List.set_cons_succ]) | (refine wpR_do rfl rfl (fun K hK => ?_)) | (refine wpR_doG rfl rfl rfl rfl rfl (fun K hK => ?_)) | (refine wpR_last rfl rfl (fun K hK => ?_)) | (refine wpR_nil ?_)) | ((with_reducible refine wpR_go ?_ ?_); (focus exact ⟨_, _, _, rfl⟩)) | ((with_reducible refine upon_id ?_); refine upon_fop rfl (by assumption) (by assumption) ?_; intro rr nn hr))
      go_roundw
      case rel =>
        refine ⟨i + 1, _, _, _, by omega, by go_num, rfl, ?_⟩
        have h8 := hcs.set (i := p + q * r) hf
        unfold denseTo at h8 ⊢; unfold writes
        rw [← Hp.out, ← Hq.out]; exact h8
      case measure => simp [intOf]; omega
    · have e : i = r * c := by omega
      subst e
      have hfw : FW (ext (upd V k cs) o2 n2) k (denseL r c ls) := by unfold denseL; rw [HL.out, Nat.min_self]; exact hFV.mk' hcs _ _
      have gu : Grew w (upd V k cs) := (g0.trans gV).upd (by omega) cs
      go_wp2
      refine bodyPost_ret (v := .agg #[.slice (some ⟨k, 0, none⟩) (r * c) (r * c), .int .i64 0, .int .i64 r, .int .i64 c, .int .i64 r]) (by simp [results, Try.results69, go_sem, *]) rfl ?_
      exact ⟨_, rfl, ⟨k, r * c, by simp [denseL, denseTo], by omega, by (repeat (first | (with_reducible assumption) | ((with_reducible refine FW.ext_set ?_ ?_ ?_ _); rotate_left; (focus (simp only [size_setCell', World.size_alloc, size_ext, size_upd]; omega)); (focus (dsimp only; omega))) | ((with_reducible refine FW.setCell_ne ?_ ?_ _); rotate_left; (focus (dsimp only; omega))) | (with_reducible refine FW.ext ?_ _ _) | (with_reducible refine FW.alloc ?_ _))), by simp [denseL, denseTo]; omega⟩, by (show Grew _ _; repeat (first | (with_reducible exact Grew.refl _) | (with_reducible assumption) | (with_reducible refine Grew.ext ?_ _ _) | (with_reducible refine Grew.alloc ?_ _) | ((with_reducible refine Grew.setCell ?_ ?_ _); rotate_left; (focus (dsimp only; first | omega | (simp only [size_ext, World.size_alloc, Array.size_append]; omega)))) | (with_reducible refine Grew.drewN ?_ _) | (with_reducible refine Grew.drew ?_)))⟩
end Go.Proofs.Ytcmggfpcbijcjaa
end
section
/-
  The example of layer 22.
-/
set_option linter.unusedSimpArgs false
set_option linter.unusedVariables false
open Go Go.RowKit Sedge
namespace Go.Proofs.Ytcmggfpcbijcjaa
def E2 : List Nat := [4611686018427387904]
def E1 : List Nat := [4607182418800017408]
def E0 : List Nat := [0]
def E4 : List Nat := [4616189618054758400]
theorem dense_1 (aL : Option Addr) (w : World) (hL : FS w (.slice aL 1 1) E2) :
   Calls Try.prog 69 #[.int .i64 1, .int .i64 1, .slice aL 1 1] w (fun e w' => ∃ v, e = .returned (.agg #[v, .int .i64 0, .int .i64 1, .int .i64 1, .int .i64 1]) ∧ WS w' w.heap.size v E2 ∧ ∃ o n, w' = ext w o n) := by
  have h := dense_any 1 1 aL E2 w hL (by decide) (by decide) (by decide) (by decide) rfl
  have e : denseL 1 1 E2 = E2 := by decide +kernel
  rw [e] at h
  exact h
theorem rest_1 (D VX VY : Value) (w : World) (hD : FS w D E2) (hX : FS w VX E1) (hY : FS w VY E2) :
   Calls Try.prog 94 #[.agg #[D, .int .i64 0, .int .i64 1, .int .i64 1, .int .i64 1], VX, VY] w (fun e w' => ∃ v1 v2, e = .returned (.tuple #[v1, v2, .int .i64 0]) ∧ FS w' v1 E0 ∧ FS w' v2 E4 ∧ ∃ o n, w' = ext w o n) := by
  have h := rest_any ⟨E2, 0, 1, 1, 1⟩ D VX VY E1 E2 w hD hX hY (by decide +kernel) (by simp [MatM.wf, I64]) (by decide) rfl (by decide) rfl rfl
  have e1 : resL ⟨E2, 0, 1, 1, 1⟩ E1 E2 = E0 := by decide +kernel
  have e2 : rebL ⟨E2, 0, 1, 1, 1⟩ E1 E2 = E4 := by decide +kernel
  rw [e1, e2] at h
  refine h.mono fun e w' hh => ?_
  obtain ⟨v1, v2, h1, h2, h3, h4⟩ := hh
  exact ⟨v1, v2, h1, h2.fs (by decide), h3.fs (by decide), h4⟩
set_option maxRecDepth 100000 in
set_option maxHeartbeats 2000000 in
theorem awake22 (w : World) : Calls Try.prog 91 #[] w (fun e w' => e = .returned (.bool true) ∧ ∃ o n, w' = ext w o n) := by
  have h2 : ∀ x ∈ E2, IsF x x := by decide +kernel
  have h1 : ∀ x ∈ E1, IsF x x := by decide +kernel
  have h0 : ∀ x ∈ E0, IsF x x := by decide +kernel
  have h4 : ∀ x ∈ E4, IsF x x := by decide +kernel
  have H2 := hid h2
  have H1 := hid h1
  have H0 := hid h0
  have H4 := hid h4
  have da : decide (E0 = E0) = true := by decide +kernel
  have db : decide (E4 = E4) = true := by decide +kernel
  clear h0 h1 h2 h4
  go_enter Try.func91, Try.ntmps91
  go_wp2_with (first | (go_at_call 69; ((with_reducible refine (dense_1 _ _ ?_).mono ?_); (focus (repeat (first | exact FS.lit E2 (by decide) H2.out 1 _ (by simp only [size_ext, World.size_alloc]) | exact FS.lit E2 (by decide) H2.out 1 _ rfl | refine FS.alloc ?_ _ | refine FS.ext ?_ _ _))); rintro e w1 ⟨v, rfl, ⟨g, cap, rfl, hg, hF, hgl⟩, hw1⟩)) | (go_at_call 94; (with_reducible refine (rest_1 _ _ _ _ ?_ ?_ ?_).mono ?_); (focus (exact ((hF.alloc _).alloc _).fs (by decide) cap)); (focus (repeat (first | exact FS.lit E1 (by decide) H1.out 1 _ (by simp only [size_ext, World.size_alloc]) | exact FS.lit E1 (by decide) H1.out 1 _ rfl | refine FS.alloc ?_ _ | refine FS.ext ?_ _ _))); (focus (repeat (first | exact FS.lit E2 (by decide) H2.out 1 _ (by simp only [size_ext, World.size_alloc]) | exact FS.lit E2 (by decide) H2.out 1 _ rfl | refine FS.alloc ?_ _ | refine FS.ext ?_ _ _))); rintro e w2 ⟨v1, v2, rfl, hv1, hv2, hw2⟩) | (go_at_call 47; ((with_reducible refine (all_any _ _ E0 E0 _ ?_ ?_).mono ?_); (focus (exact hv1.alloc _)); (focus (repeat (first | exact FS.lit E0 (by decide) H0.out 1 _ (by simp only [size_ext, World.size_alloc]) | exact FS.lit E0 (by decide) H0.out 1 _ rfl | refine FS.alloc ?_ _ | refine FS.ext ?_ _ _))); rintro e w3 ⟨rfl, hw3⟩)) | (go_at_call 47; ((with_reducible refine (all_any _ _ E4 E4 _ ?_ ?_).mono ?_); (focus (exact (((hv2.alloc _).grew hw3).alloc _))); (focus (repeat (first | exact FS.lit E4 (by decide) H4.out 1 _ (by simp only [size_ext, World.size_alloc]) | exact FS.lit E4 (by decide) H4.out 1 _ rfl | refine FS.alloc ?_ _ | refine FS.ext ?_ _ _))); rintro e w4 ⟨rfl, hw4⟩)))
  go_ret
  exact ⟨rfl, Grew.trans ((Grew.trans ((Grew.trans (((Grew.trans ((Grew.refl w).alloc _) hw1).alloc _).alloc _) hw2).alloc _) hw3).alloc _) hw4⟩
end Go.Proofs.Ytcmggfpcbijcjaa
end
section
/-
  Places clear of each other; blocks of numbers written out; small facts for the laws.
-/
set_option linter.unusedSimpArgs false
set_option linter.unusedVariables false
open Go Go.RowKit Sedge
namespace Go.Proofs.Ytcmggfpcbijcjaa
theorem meet_no {x : VecM} {m : MatM} (hx : x.right = true) (hm : m.good = true) (h : meetM (rowM x) m true = false) {r i j : Nat} (hr : (r : Int) < x.n) (hi : (i : Int) < m.rows) (hj : (j : Int) < m.cols) : x.place r ≠ m.place i j := by
  intro e
  have f1 : MatM.full (rowM x) = true := by unfold MatM.full; rw [rowM_good hx]; simp [rowM]; omega
  have f2 : MatM.full m = true := by unfold MatM.full; rw [hm]; simp; omega
  have px := VecM.right_place hx hr
  have pm := MatM.good_place hm hi hj
  have hn := VecM.right_n hx
  have hmn := m.good_n hm
  unfold VecM.place MatM.place at e
  have e' : x.off + r * x.inc = m.off + i + j * m.ld := by omega
  have k1 : (r : Int) * x.inc ≤ (x.n - 1) * x.inc := Int.mul_le_mul_of_nonneg_right (by omega) (by omega)
  have k2 : (j : Int) * m.ld ≤ (m.cols - 1) * m.ld := Int.mul_le_mul_of_nonneg_right (by omega) (by omega)
  unfold meetM spanLo spanHi at h
  rw [f1, f2] at h
  simp [rowM] at h
  omega
theorem _root_.Sedge.But.fs_ne {w w' : World} {a g c n : Nat} {ws : List Nat} (hb : But w [g] w') (h : FS w (.slice (some ⟨a, 0, none⟩) n c) ws) (hne : a ≠ g) : FS w' (.slice (some ⟨a, 0, none⟩) n c) ws := by
  obtain ⟨hl, a', cap, hv, h0, hc⟩ := h
  refine ⟨hl, a', cap, hv, h0, fun i hi => ?_⟩
  obtain ⟨blk, o, b, he, h1, h2⟩ := hc i hi
  refine ⟨blk, o, b, he, ?_, h2⟩
  have e : blk = a := by
    have e2 := hv
    simp only [Value.slice.injEq] at e2
    rw [he] at e2
    have e3 := e2.1
    simp only [Option.some.injEq, Addr.mk.injEq] at e3
    exact e3.1.symm
  rw [hb.cell (World.block_lt_of_cell? w _ h1) (by rw [e]; simpa using hne)]; exact h1
theorem meetM_false (x y : MatM) : meetM x y false = false := by unfold meetM; simp
theorem frozen_of_block' {w : World} {p i : Nat} {cs : Array Value} {e : TypeId} (h : w.heap[p]? = some (.cells cs e (0, 0))) : w.frozen? ⟨p, i, none⟩ = false := by
  unfold World.frozen?; simp [h]
theorem great_no {m : MatM} (h : MatM.great m = false) : m.ws.length ≤ 1000 ∧ m.rows ≤ 20 ∧ m.cols ≤ 20 := by simp [MatM.great] at h; omega
theorem long_no' {a : VecM} (h : VecM.long a = false) : a.ws.length ≤ 1000 ∧ a.n ≤ 60 := by simp [VecM.long] at h; omega
theorem FW.lit {w : World} {t : TypeId} (l : List Nat) (h : ∀ x ∈ l, IsF x x) : FW (w.alloc (.cells (l.map (Value.float .f64)).toArray t)) w.heap.size l := by
  refine ⟨(l.map (Value.float .f64)).toArray, t, by show (w.heap.push _)[w.heap.size]? = _; simp, by simp, fun i hi => ⟨l.getD i 0, ?_, ?_⟩⟩
  · simp [List.getD_eq_getElem?_getD, hi]
  · rw [List.getD_eq_getElem?_getD, List.getElem?_eq_getElem hi]
    exact h _ (List.getElem_mem hi)
theorem FW.lit' {w : World} {t : TypeId} (l : List Nat) (h : ∀ x ∈ l, IsF x x) (n : Nat) (hn : n = w.heap.size) : FW (w.alloc (.cells (l.map (Value.float .f64)).toArray t)) n l := by subst hn; exact FW.lit l h
end Go.Proofs.Ytcmggfpcbijcjaa
end
section
/-
  The walk of the law ResidRest (layer 22).
-/
set_option linter.unusedSimpArgs false
set_option linter.unusedVariables false
open Go Go.RowKit Sedge
namespace Go.Proofs.Ytcmggfpcbijcjaa
theorem finL_at {l : List Nat} (h : finL l = true) {i : Nat} (hi : i < l.length) : finB (l.getD i 0) = true := by
  unfold finL at h
  rw [List.all_eq_true] at h
  refine h _ ?_
  rw [List.getD_eq_getElem?_getD, List.getElem?_eq_getElem hi]; exact List.getElem_mem hi
theorem fin_finB {x : Nat} (hx : x < 2 ^ 64) : fin x = finB x := fin_kind hx
set_option maxRecDepth 100000 in
set_option maxHeartbeats 8000000 in
theorem residRest_any (m : MatM) (D VX : Value) (X : List Nat) (VY : Value) (Y : List Nat) (w : World) (hD : FS w D m.ws) (hwf : m.wf) (hX : FS w VX X) (hY : FS w VY Y) :
    Calls Try.prog 16 #[.agg #[D, .int .i64 m.off, .int .i64 m.rows, .int .i64 m.cols, .int .i64 m.ld], VX, VY] w (fun e w' => e = .returned (.bool true) ∧ ∃ o n, w' = ext w o n) := by
  obtain ⟨aX, cX, rfl⟩ := hX.shape
  obtain ⟨aY, cY, rfl⟩ := hY.shape
  have hgr : ∀ w', Grew w w' → Calls Try.prog 42 #[.agg #[D, .int .i64 m.off, .int .i64 m.rows, .int .i64 m.cols, .int .i64 m.ld]] w' (fun e w2 => e = .returned (.bool (MatM.great m)) ∧ ∃ o n, w2 = ext w' o n) := fun w' g => great_any m D w' (hD.grew g)
  have hgo : ∀ w', Grew w w' → Calls Try.prog 46 #[.agg #[D, .int .i64 m.off, .int .i64 m.rows, .int .i64 m.cols, .int .i64 m.ld]] w' (fun e w2 => e = .returned (.bool m.good) ∧ ∃ o n, w2 = ext w' o n) := fun w' g => rgood_any m D w' (hD.grew g) hwf
  have HDm := hid hD
  have HXm := hid hX
  have HYm := hid hY
  have Hwf := hid hwf
  clear hD hX hY hwf
  cases hg : MatM.great m
  · rw [hg] at hgr
    obtain ⟨hl1, hl2, hl3⟩ := great_no hg
    by_cases r1 : 16 < m.rows
    · have d1 : decide (16 < m.rows) = true := by simpa using r1
      clear hg
      go_enter Try.func16, Try.ntmps16
      refine seq_stop ?_
      go_wp2
      refine stop_go (fun W hW => ?_)
      have s1 : w.heap.size < W.heap.size := by rw [hW]; simp only [World.size_alloc]; omega
      have b1 : ∀ i, W.cell? ⟨w.heap.size, i, none⟩ = (#[D, .int .i64 m.off, .int .i64 m.rows, .int .i64 m.cols, .int .i64 m.ld] : Array Value)[i]? := by intro i; rw [hW]; go_simp
      have g0 : Grew w W := by rw [hW]; exact (Grew.refl _).alloc _
      clear hW
      go_wp2_with (first | (go_at_call 91; ((with_reducible refine (awake22 _).mono ?_); rintro e w1 ⟨rfl, o1, n1, rfl⟩)) | (go_at_call 42; ((with_reducible refine (hgr _ (Grew.trans g0 (by (show Grew _ _; repeat (first | (with_reducible exact Grew.refl _) | (with_reducible assumption) | (with_reducible exact Grew.same_o) | (with_reducible exact Grew.app_o) | (with_reducible refine Grew.ext ?_ _ _) | (with_reducible refine Grew.alloc ?_ _) | ((with_reducible refine Grew.setCell ?_ ?_ _); rotate_left; (focus (dsimp only; first | omega | (simp only [size_ext, World.size_alloc, Array.size_append]; omega)))) | (with_reducible refine Grew.drewN ?_ _) | (with_reducible refine Grew.drew ?_)))))).mono ?_); rintro e w1 ⟨rfl, o2, n2, rfl⟩)) | (go_at_call 46; ((with_reducible refine (hgo _ (Grew.trans g0 (by (show Grew _ _; repeat (first | (with_reducible exact Grew.refl _) | (with_reducible assumption) | (with_reducible exact Grew.same_o) | (with_reducible exact Grew.app_o) | (with_reducible refine Grew.ext ?_ _ _) | (with_reducible refine Grew.alloc ?_ _) | ((with_reducible refine Grew.setCell ?_ ?_ _); rotate_left; (focus (dsimp only; first | omega | (simp only [size_ext, World.size_alloc, Array.size_append]; omega)))) | (with_reducible refine Grew.drewN ?_ _) | (with_reducible refine Grew.drew ?_)))))).mono ?_); rintro e w1 ⟨rfl, o3, n3, rfl⟩)))
      go_ret
      exact ⟨rfl, Grew.trans g0 (by (show Grew _ _; repeat (first | (with_reducible exact Grew.refl _) | (with_reducible assumption) | (with_reducible exact Grew.same_o) | (with_reducible exact Grew.app_o) | (with_reducible refine Grew.ext ?_ _ _) | (with_reducible refine Grew.alloc ?_ _) | ((with_reducible refine Grew.setCell ?_ ?_ _); rotate_left; (focus (dsimp only; first | omega | (simp only [size_ext, World.size_alloc, Array.size_append]; omega)))) | (with_reducible refine Grew.drewN ?_ _) | (with_reducible refine Grew.drew ?_))))⟩
    · have d1 : decide (16 < m.rows) = false := by simpa using r1
      cases hgd : m.good
      · rw [hgd] at hgo
        clear hg hgd
        go_enter Try.func16, Try.ntmps16
        refine seq_stop ?_
        go_wp2
        refine stop_go (fun W hW => ?_)
        have s1 : w.heap.size < W.heap.size := by rw [hW]; simp only [World.size_alloc]; omega
        have b1 : ∀ i, W.cell? ⟨w.heap.size, i, none⟩ = (#[D, .int .i64 m.off, .int .i64 m.rows, .int .i64 m.cols, .int .i64 m.ld] : Array Value)[i]? := by intro i; rw [hW]; go_simp
        have g0 : Grew w W := by rw [hW]; exact (Grew.refl _).alloc _
        clear hW
        go_wp2_with (first | (go_at_call 91; ((with_reducible refine (awake22 _).mono ?_); rintro e w1 ⟨rfl, o1, n1, rfl⟩)) | (go_at_call 42; ((with_reducible refine (hgr _ (Grew.trans g0 (by (show Grew _ _; repeat (first | (with_reducible exact Grew.refl _) | (with_reducible assumption) | (with_reducible exact Grew.same_o) | (with_reducible exact Grew.app_o) | (with_reducible refine Grew.ext ?_ _ _) | (with_reducible refine Grew.alloc ?_ _) | ((with_reducible refine Grew.setCell ?_ ?_ _); rotate_left; (focus (dsimp only; first | omega | (simp only [size_ext, World.size_alloc, Array.size_append]; omega)))) | (with_reducible refine Grew.drewN ?_ _) | (with_reducible refine Grew.drew ?_)))))).mono ?_); rintro e w1 ⟨rfl, o2, n2, rfl⟩)) | (go_at_call 46; ((with_reducible refine (hgo _ (Grew.trans g0 (by (show Grew _ _; repeat (first | (with_reducible exact Grew.refl _) | (with_reducible assumption) | (with_reducible exact Grew.same_o) | (with_reducible exact Grew.app_o) | (with_reducible refine Grew.ext ?_ _ _) | (with_reducible refine Grew.alloc ?_ _) | ((with_reducible refine Grew.setCell ?_ ?_ _); rotate_left; (focus (dsimp only; first | omega | (simp only [size_ext, World.size_alloc, Array.size_append]; omega)))) | (with_reducible refine Grew.drewN ?_ _) | (with_reducible refine Grew.drew ?_)))))).mono ?_); rintro e w1 ⟨rfl, o3, n3, rfl⟩)))
        go_ret
        exact ⟨rfl, Grew.trans g0 (by (show Grew _ _; repeat (first | (with_reducible exact Grew.refl _) | (with_reducible assumption) | (with_reducible exact Grew.same_o) | (with_reducible exact Grew.app_o) | (with_reducible refine Grew.ext ?_ _ _) | (with_reducible refine Grew.alloc ?_ _) | ((with_reducible refine Grew.setCell ?_ ?_ _); rotate_left; (focus (dsimp only; first | omega | (simp only [size_ext, World.size_alloc, Array.size_append]; omega)))) | (with_reducible refine Grew.drewN ?_ _) | (with_reducible refine Grew.drew ?_))))⟩
      · rw [hgd] at hgo
        by_cases r2 : m.rows = m.cols
        · have d2 : (m.rows != m.cols) = false := by simpa using r2
          by_cases r3 : (X.length : Int) = m.rows
          · have d3 : ((X.length : Int) != m.rows) = false := by simpa using r3
            by_cases r4 : (Y.length : Int) = m.rows
            · have d4 : ((Y.length : Int) != m.rows) = false := by simpa using r4
              obtain ⟨n, hn⟩ : ∃ n : Nat, m.rows = n := ⟨m.rows.toNat, by have := MatM.good_n hgd; omega⟩
              have hnt : m.rows.toNat = n := by omega
              have hct : m.cols.toNat = n := by omega
              have hn16 : n ≤ 16 := by omega
              obtain ⟨RS, hRS⟩ : ∃ RS, RS = resL m X Y := ⟨_, rfl⟩
              obtain ⟨RB, hRB⟩ : ∃ RB, RB = rebL m X Y := ⟨_, rfl⟩
              obtain ⟨F, hF⟩ : ∃ F, F = bndL RS RB := ⟨_, rfl⟩
              have lRS : RS.length = n := by rw [hRS, resL_length, hnt]
              have lRB : RB.length = n := by rw [hRB, rebL_length, hnt]
              have lF : F.length = n := by rw [hF, bndL_length, lRS]
              have hRest : ∀ w', Grew w w' → Calls Try.prog 94 #[.agg #[D, .int .i64 m.off, .int .i64 m.rows, .int .i64 m.cols, .int .i64 m.ld], .slice aX X.length cX, .slice aY Y.length cY] w' (fun e w2 => ∃ v1 v2, e = .returned (.tuple #[v1, v2, .int .i64 0]) ∧ FS w2 v1 RS ∧ FS w2 v2 RB ∧ ∃ o n, w2 = ext w' o n) := fun w' g => by
                refine (rest_any m D _ _ X Y w' (HDm.out.grew g) (HXm.out.grew g) (HYm.out.grew g) hgd Hwf.out (by omega) r2 (by omega) r3 r4).mono fun e w2 hh => ?_
                obtain ⟨v1, v2, e1, e2, e3, e4⟩ := hh
                rw [← hRS] at e2
                rw [← hRB] at e3
                exact ⟨v1, v2, e1, e2.fs (by omega), e3.fs (by omega), e4⟩
              have hBnd : ∀ v1 v2 w', FS w' v1 RS → FS w' v2 RB → Calls Try.prog 92 #[v1, v2] w' (fun e w2 => ∃ a3 c3, e = .returned (.tuple #[.slice a3 n c3, .int .i64 0]) ∧ FS w2 (.slice a3 n c3) F ∧ ∃ o n, w2 = ext w' o n) := fun v1 v2 w' h1 h2 => by
                refine (bounds_any v1 v2 _ _ w' h1 h2 (by omega) (by rw [lRS, lRB])).mono fun e w2 hh => ?_
                obtain ⟨v3, e1, e2, e3⟩ := hh
                rw [← hF] at e2
                have e4 := e2.fs (by omega)
                obtain ⟨a3, c3, rfl⟩ := e4.shape
                rw [lF] at e1 e4
                exact ⟨a3, c3, e1, e4, e3⟩
              have hOf : ∀ w', Grew w w' → Calls Try.prog 48 #[.agg #[D, .int .i64 m.off, .int .i64 m.rows, .int .i64 m.cols, .int .i64 m.ld]] w' (fun e w2 => ∃ a c, e = .returned (.agg #[.int .i64 m.rows, .int .i64 m.cols, .slice a m.tab.length c]) ∧ FS w2 (.slice a m.tab.length c) m.tab ∧ ∃ o n, w2 = ext w' o n) := fun w' g => by
                refine (rof_any m D w' (HDm.out.grew g) hgd (by omega) (by omega) (by omega) Hwf.out).mono fun e w2 hh => ?_
                obtain ⟨v, e1, e2, e3⟩ := hh
                obtain ⟨a, c, rfl⟩ := e2.fs.shape
                exact ⟨a, c, e1, e2.fs, e3⟩
              have hLaw : ∀ i, i < n → fin (F.getD i 0) = true → sgE ((exS (val (Y.getD i 0)) (prT n m.tab X i) n).abs - val (F.getD i 0)) ≤ 0 := fun i hi hf => by
                rw [hF, hRS, hRB] at hf ⊢
                have := rest_law m X Y (FS_lt HDm.out) (FS_lt HXm.out) (FS_lt HYm.out) r2 (by omega) (i := i) (by omega) hf
                rw [hct, hnt] at this
                exact sgE_le this
              have hExa : ∀ (a : Option Addr) (c i : Nat) w', i < n → Grew w w' → FS w' (.slice a m.tab.length c) m.tab → Calls Try.prog 95 #[.agg #[.int .i64 m.rows, .int .i64 m.cols, .slice a m.tab.length c], .slice aX X.length cX, .slice aY Y.length cY, .int .i64 i] w' (fun e w2 => ∃ v1 v2, e = .returned (.tuple #[v1, v2]) ∧ DV w2 v1 (exS (val (Y.getD i 0)) (prT n m.tab X i) n) (-150) 250 ∧ DV w2 v2 (exB (val (Y.getD i 0)) (prT n m.tab X i) n) (-150) 250 ∧ ∃ o n, w2 = ext w' o n) := fun a c i w' hi g hA => by
                have hml : m.tab.length = n * n := by rw [MatM.tab_length, hnt, hct]
                have h := exact_any n n _ _ _ m.tab X Y i w' hA (HXm.out.grew g) (HYm.out.grew g) (by omega) (by omega) (by omega) (fun j hj => by
                  rw [hml]
                  have : (i + 1) * n ≤ n * n := Nat.mul_le_mul_right n hi
                  rw [Nat.add_mul] at this
                  omega) (by omega) (by omega) (by omega) (by omega)
                rw [hn, ← r2, hn]
                exact h
              have hFl : ∀ i, F.getD i 0 < 2 ^ 64 ∨ True := fun _ => .inr trivial
              obtain ⟨lT, hlT⟩ : ∃ lT, lT = m.tab.length := ⟨_, rfl⟩
              obtain ⟨T, hT⟩ : ∃ T, T = m.tab := ⟨_, rfl⟩
              rw [← hlT] at hOf hExa
              rw [← hT] at hOf hExa hLaw
              have HFS := hid (FS_lt HXm.out)
              clear hRS hRB hF hg hgd r1 r2 hFl
              have HLAW := hid hLaw
              have HR3 := hid r3
              have HR4 := hid r4
              have HN := hid hn
              have HEX := hid hExa
              have HLT := hid hlT
              have HT := hid hT
              have HLF := hid lF
              have HLS := hid lRS
              have HLB := hid lRB
              have dF : ((n : Int) != m.rows) = false := by rw [hn]; simp
              clear hLaw r3 r4 hExa hnt hct hn hlT hT lF lRS lRB
              go_enter Try.func16, Try.ntmps16
              refine seq_stop ?_
              go_wp2
              refine stop_go (fun W hW => ?_)
              have s1 : w.heap.size < W.heap.size := by rw [hW]; simp only [World.size_alloc]; omega
              have b1 : ∀ i, W.cell? ⟨w.heap.size, i, none⟩ = (#[D, .int .i64 m.off, .int .i64 m.rows, .int .i64 m.cols, .int .i64 m.ld] : Array Value)[i]? := by intro i; rw [hW]; go_simp
              have g0 : Grew w W := by rw [hW]; exact (Grew.refl _).alloc _
              clear hW
              go_upto_region 6 with (first | (go_at_call 91; ((with_reducible refine (awake22 _).mono ?_); rintro e w1 ⟨rfl, o1, n1, rfl⟩)) | (go_at_call 42; ((with_reducible refine (hgr _ (Grew.trans g0 (by (show Grew _ _; repeat (first | (with_reducible exact Grew.refl _) | (with_reducible assumption) | (with_reducible exact Grew.same_o) | (with_reducible exact Grew.app_o) | (with_reducible refine Grew.ext ?_ _ _) | (with_reducible refine Grew.alloc ?_ _) | ((with_reducible refine Grew.setCell ?_ ?_ _); rotate_left; (focus (dsimp only; first | omega | (simp only [size_ext, World.size_alloc, Array.size_append]; omega)))) | (with_reducible refine Grew.drewN ?_ _) | (with_reducible refine Grew.drew ?_)))))).mono ?_); rintro e w1 ⟨rfl, o2, n2, rfl⟩)) | (go_at_call 46; ((with_reducible refine (hgo _ (Grew.trans g0 (by (show Grew _ _; repeat (first | (with_reducible exact Grew.refl _) | (with_reducible assumption) | (with_reducible exact Grew.same_o) | (with_reducible exact Grew.app_o) | (with_reducible refine Grew.ext ?_ _ _) | (with_reducible refine Grew.alloc ?_ _) | ((with_reducible refine Grew.setCell ?_ ?_ _); rotate_left; (focus (dsimp only; first | omega | (simp only [size_ext, World.size_alloc, Array.size_append]; omega)))) | (with_reducible refine Grew.drewN ?_ _) | (with_reducible refine Grew.drew ?_)))))).mono ?_); rintro e w1 ⟨rfl, o3, n3, rfl⟩)) | (go_at_call 48; ((with_reducible refine (hOf _ (Grew.trans g0 (by (show Grew _ _; repeat (first | (with_reducible exact Grew.refl _) | (with_reducible assumption) | (with_reducible exact Grew.same_o) | (with_reducible exact Grew.app_o) | (with_reducible refine Grew.ext ?_ _ _) | (with_reducible refine Grew.alloc ?_ _) | ((with_reducible refine Grew.setCell ?_ ?_ _); rotate_left; (focus (dsimp only; first | omega | (simp only [size_ext, World.size_alloc, Array.size_append]; omega)))) | (with_reducible refine Grew.drewN ?_ _) | (with_reducible refine Grew.drew ?_)))))).mono ?_); rintro e w1 ⟨aT, cT, rfl, hT1, o4, n4, rfl⟩)))
              refine name_any (fun V hV => ?_)
              simp only [ext_ext] at hT1
              obtain ⟨k7, hk7⟩ : ∃ k7, k7 = W.heap.size + (o1.size + (o2.size + (o3.size + o4.size))) := ⟨_, rfl⟩
              have gV : Grew W V := by rw [← hV]; (show Grew _ _; (try simp only [← Array.append_assoc]); repeat (first | (with_reducible exact Grew.same_o) | (with_reducible exact Grew.refl _) | (with_reducible assumption) | (with_reducible refine Grew.alloc ?_ _) | (with_reducible refine Grew.app_r ?_) | ((with_reducible refine Grew.setCell ?_ ?_ _); rotate_left; (focus (dsimp only; first | omega | (simp only [size_ext, World.size_alloc, Array.size_append]; omega)))) | (with_reducible refine Grew.ext ?_ _ _) | (with_reducible refine Grew.drewN ?_ _) | (with_reducible refine Grew.drew ?_)))
              have c7 : ∀ i, V.cell? ⟨k7, i, none⟩ = (#[.int .i64 m.rows, .int .i64 m.cols, .slice aT lT cT] : Array Value)[i]? := by subst hV; rw [hk7]; intro i; go_simp
              have z7 : k7 < V.heap.size := by rw [← hV, hk7]; simp only [World.size_alloc, size_ext, Array.size_append]; omega
              have hTV : FS V (.slice aT lT cT) T := hT1.grew (by rw [← hV]; (show Grew _ _; (try simp only [← Array.append_assoc]); repeat (first | (with_reducible exact Grew.same_o) | (with_reducible exact Grew.refl _) | (with_reducible assumption) | (with_reducible refine Grew.alloc ?_ _) | (with_reducible refine Grew.app_r ?_) | ((with_reducible refine Grew.setCell ?_ ?_ _); rotate_left; (focus (dsimp only; first | omega | (simp only [size_ext, World.size_alloc, Array.size_append]; omega)))) | (with_reducible refine Grew.ext ?_ _ _) | (with_reducible refine Grew.drewN ?_ _) | (with_reducible refine Grew.drew ?_))))
              have c3 : ∀ i, V.cell? ⟨w.heap.size, i, none⟩ = (#[D, .int .i64 m.off, .int .i64 m.rows, .int .i64 m.cols, .int .i64 m.ld] : Array Value)[i]? := fun i => (gV.cell s1).trans (b1 i)
              have z3 : w.heap.size < V.heap.size := Nat.lt_of_lt_of_le s1 gV.below.size
              have gw : Grew w V := Grew.trans g0 gV
              simp only [← hk7]
              clear hV hk7 gV b1 s1 hT1 hOf g0
              have hfT : ∀ w', Grew V w' → Calls Try.prog 25 #[.slice aT lT cT] w' (fun e w2 => e = .returned (.bool (finL T)) ∧ w' = w2) := fun w' g => finite_any _ T w' (hTV.grew g)
              have hfX : ∀ w', Grew w w' → Calls Try.prog 25 #[.slice aX X.length cX] w' (fun e w2 => e = .returned (.bool (finL X)) ∧ w' = w2) := fun w' g => finite_any _ X w' (HXm.out.grew g)
              have hfY : ∀ w', Grew w w' → Calls Try.prog 25 #[.slice aY Y.length cY] w' (fun e w2 => e = .returned (.bool (finL Y)) ∧ w' = w2) := fun w' g => finite_any _ Y w' (HYm.out.grew g)
              go_wp2_with (first | (go_at_call 91; ((with_reducible refine (awake22 _).mono ?_); rintro e w1 ⟨rfl, o1, n1, rfl⟩)) | (go_at_call 94; ((with_reducible refine (hRest _ (Grew.trans gw (by (show Grew _ _; (try simp only [← Array.append_assoc]); repeat (first | (with_reducible exact Grew.same_o) | (with_reducible exact Grew.refl _) | (with_reducible assumption) | (with_reducible refine Grew.alloc ?_ _) | (with_reducible refine Grew.app_r ?_) | ((with_reducible refine Grew.setCell ?_ ?_ _); rotate_left; (focus (dsimp only; first | omega | (simp only [size_ext, World.size_alloc, Array.size_append]; omega)))) | (with_reducible refine Grew.ext ?_ _ _) | (with_reducible refine Grew.drewN ?_ _) | (with_reducible refine Grew.drew ?_)))))).mono ?_); rintro e w1 ⟨v1, v2, rfl, hv1, hv2, o1, n1, rfl⟩)) | (go_at_call 92; ((with_reducible refine (hBnd _ _ _ hv1 hv2).mono ?_); rintro e w1 ⟨a3, c3', rfl, hv3, o2, n2, rfl⟩)))
              simp only [ext_ext] at hv3
              refine name_call (fun U hU => ?_)
              have gU : Grew V U := by rw [← hU]; (show Grew _ _; (try simp only [← Array.append_assoc]); repeat (first | (with_reducible exact Grew.same_o) | (with_reducible exact Grew.refl _) | (with_reducible assumption) | (with_reducible refine Grew.alloc ?_ _) | (with_reducible refine Grew.app_r ?_) | ((with_reducible refine Grew.setCell ?_ ?_ _); rotate_left; (focus (dsimp only; first | omega | (simp only [size_ext, World.size_alloc, Array.size_append]; omega)))) | (with_reducible refine Grew.ext ?_ _ _) | (with_reducible refine Grew.drewN ?_ _) | (with_reducible refine Grew.drew ?_)))
              rw [hU] at hv3
              have c7' : ∀ i, U.cell? ⟨k7, i, none⟩ = (#[.int .i64 m.rows, .int .i64 m.cols, .slice aT lT cT] : Array Value)[i]? := fun i => (gU.cell z7).trans (c7 i)
              have c3x : ∀ i, U.cell? ⟨w.heap.size, i, none⟩ = (#[D, .int .i64 m.off, .int .i64 m.rows, .int .i64 m.cols, .int .i64 m.ld] : Array Value)[i]? := fun i => (gU.cell z3).trans (c3 i)
              have z7' : k7 < U.heap.size := Nat.lt_of_lt_of_le z7 gU.below.size
              have z3' : w.heap.size < U.heap.size := Nat.lt_of_lt_of_le z3 gU.below.size
              have gwU : Grew w U := Grew.trans gw gU
              have hTU : FS U (.slice aT lT cT) T := hTV.grew gU
              have hfT' : ∀ w', Grew U w' → Calls Try.prog 25 #[.slice aT lT cT] w' (fun e w2 => e = .returned (.bool (finL T)) ∧ w' = w2) := fun w' g => finite_any _ T w' (hTU.grew g)
              have hfF : ∀ w', Grew U w' → Calls Try.prog 25 #[.slice a3 n c3'] w' (fun e w2 => e = .returned (.bool (finL F)) ∧ w' = w2) := fun w' g => finite_any _ F w' (hv3.grew g)
              clear hU gU c7 c3 z7 z3 hTV hfT hv1 hv2 hRest hBnd gw hgr hgo
              cases fT : finL T
              · rw [fT] at hfT'
                clear fT
                go_wp2_with (first | (go_at_call 91; ((with_reducible refine (awake22 _).mono ?_); rintro e w1 ⟨rfl, o1, n1, rfl⟩)) | (go_at_call 25; ((with_reducible refine (hfT' _ (by (show Grew _ _; (try simp only [← Array.append_assoc]); repeat (first | (with_reducible exact Grew.same_o) | (with_reducible exact Grew.refl _) | (with_reducible assumption) | (with_reducible refine Grew.alloc ?_ _) | (with_reducible refine Grew.app_r ?_) | ((with_reducible refine Grew.setCell ?_ ?_ _); rotate_left; (focus (dsimp only; first | omega | (simp only [size_ext, World.size_alloc, Array.size_append]; omega)))) | (with_reducible refine Grew.ext ?_ _ _) | (with_reducible refine Grew.drewN ?_ _) | (with_reducible refine Grew.drew ?_))))).mono ?_); rintro e w1 ⟨rfl, rfl⟩)) | (go_at_call 25; ((with_reducible refine (hfX _ (Grew.trans gwU (by (show Grew _ _; (try simp only [← Array.append_assoc]); repeat (first | (with_reducible exact Grew.same_o) | (with_reducible exact Grew.refl _) | (with_reducible assumption) | (with_reducible refine Grew.alloc ?_ _) | (with_reducible refine Grew.app_r ?_) | ((with_reducible refine Grew.setCell ?_ ?_ _); rotate_left; (focus (dsimp only; first | omega | (simp only [size_ext, World.size_alloc, Array.size_append]; omega)))) | (with_reducible refine Grew.ext ?_ _ _) | (with_reducible refine Grew.drewN ?_ _) | (with_reducible refine Grew.drew ?_)))))).mono ?_); rintro e w1 ⟨rfl, rfl⟩)) | (go_at_call 25; ((with_reducible refine (hfY _ (Grew.trans gwU (by (show Grew _ _; (try simp only [← Array.append_assoc]); repeat (first | (with_reducible exact Grew.same_o) | (with_reducible exact Grew.refl _) | (with_reducible assumption) | (with_reducible refine Grew.alloc ?_ _) | (with_reducible refine Grew.app_r ?_) | ((with_reducible refine Grew.setCell ?_ ?_ _); rotate_left; (focus (dsimp only; first | omega | (simp only [size_ext, World.size_alloc, Array.size_append]; omega)))) | (with_reducible refine Grew.ext ?_ _ _) | (with_reducible refine Grew.drewN ?_ _) | (with_reducible refine Grew.drew ?_)))))).mono ?_); rintro e w1 ⟨rfl, rfl⟩)) | (go_at_call 25; ((with_reducible refine (hfF _ (by (show Grew _ _; (try simp only [← Array.append_assoc]); repeat (first | (with_reducible exact Grew.same_o) | (with_reducible exact Grew.refl _) | (with_reducible assumption) | (with_reducible refine Grew.alloc ?_ _) | (with_reducible refine Grew.app_r ?_) | ((with_reducible refine Grew.setCell ?_ ?_ _); rotate_left; (focus (dsimp only; first | omega | (simp only [size_ext, World.size_alloc, Array.size_append]; omega)))) | (with_reducible refine Grew.ext ?_ _ _) | (with_reducible refine Grew.drewN ?_ _) | (with_reducible refine Grew.drew ?_))))).mono ?_); rintro e w1 ⟨rfl, rfl⟩)))
                go_ret
                exact ⟨rfl, Grew.trans gwU (by (show Grew _ _; (try simp only [← Array.append_assoc]); repeat (first | (with_reducible exact Grew.same_o) | (with_reducible exact Grew.refl _) | (with_reducible assumption) | (with_reducible refine Grew.alloc ?_ _) | (with_reducible refine Grew.app_r ?_) | ((with_reducible refine Grew.setCell ?_ ?_ _); rotate_left; (focus (dsimp only; first | omega | (simp only [size_ext, World.size_alloc, Array.size_append]; omega)))) | (with_reducible refine Grew.ext ?_ _ _) | (with_reducible refine Grew.drewN ?_ _) | (with_reducible refine Grew.drew ?_))))⟩
              · rw [fT] at hfT'
                cases fX : finL X
                · rw [fX] at hfX
                  clear fT fX
                  go_wp2_with (first | (go_at_call 91; ((with_reducible refine (awake22 _).mono ?_); rintro e w1 ⟨rfl, o1, n1, rfl⟩)) | (go_at_call 25; ((with_reducible refine (hfT' _ (by (show Grew _ _; (try simp only [← Array.append_assoc]); repeat (first | (with_reducible exact Grew.same_o) | (with_reducible exact Grew.refl _) | (with_reducible assumption) | (with_reducible refine Grew.alloc ?_ _) | (with_reducible refine Grew.app_r ?_) | ((with_reducible refine Grew.setCell ?_ ?_ _); rotate_left; (focus (dsimp only; first | omega | (simp only [size_ext, World.size_alloc, Array.size_append]; omega)))) | (with_reducible refine Grew.ext ?_ _ _) | (with_reducible refine Grew.drewN ?_ _) | (with_reducible refine Grew.drew ?_))))).mono ?_); rintro e w1 ⟨rfl, rfl⟩)) | (go_at_call 25; ((with_reducible refine (hfX _ (Grew.trans gwU (by (show Grew _ _; (try simp only [← Array.append_assoc]); repeat (first | (with_reducible exact Grew.same_o) | (with_reducible exact Grew.refl _) | (with_reducible assumption) | (with_reducible refine Grew.alloc ?_ _) | (with_reducible refine Grew.app_r ?_) | ((with_reducible refine Grew.setCell ?_ ?_ _); rotate_left; (focus (dsimp only; first | omega | (simp only [size_ext, World.size_alloc, Array.size_append]; omega)))) | (with_reducible refine Grew.ext ?_ _ _) | (with_reducible refine Grew.drewN ?_ _) | (with_reducible refine Grew.drew ?_)))))).mono ?_); rintro e w1 ⟨rfl, rfl⟩)) | (go_at_call 25; ((with_reducible refine (hfY _ (Grew.trans gwU (by (show Grew _ _; (try simp only [← Array.append_assoc]); repeat (first | (with_reducible exact Grew.same_o) | (with_reducible exact Grew.refl _) | (with_reducible assumption) | (with_reducible refine Grew.alloc ?_ _) | (with_reducible refine Grew.app_r ?_) | ((with_reducible refine Grew.setCell ?_ ?_ _); rotate_left; (focus (dsimp only; first | omega | (simp only [size_ext, World.size_alloc, Array.size_append]; omega)))) | (with_reducible refine Grew.ext ?_ _ _) | (with_reducible refine Grew.drewN ?_ _) | (with_reducible refine Grew.drew ?_)))))).mono ?_); rintro e w1 ⟨rfl, rfl⟩)) | (go_at_call 25; ((with_reducible refine (hfF _ (by (show Grew _ _; (try simp only [← Array.append_assoc]); repeat (first | (with_reducible exact Grew.same_o) | (with_reducible exact Grew.refl _) | (with_reducible assumption) | (with_reducible refine Grew.alloc ?_ _) | (with_reducible refine Grew.app_r ?_) | ((with_reducible refine Grew.setCell ?_ ?_ _); rotate_left; (focus (dsimp only; first | omega | (simp only [size_ext, World.size_alloc, Array.size_append]; omega)))) | (with_reducible refine Grew.ext ?_ _ _) | (with_reducible refine Grew.drewN ?_ _) | (with_reducible refine Grew.drew ?_))))).mono ?_); rintro e w1 ⟨rfl, rfl⟩)))
                  go_ret
                  exact ⟨rfl, Grew.trans gwU (by (show Grew _ _; (try simp only [← Array.append_assoc]); repeat (first | (with_reducible exact Grew.same_o) | (with_reducible exact Grew.refl _) | (with_reducible assumption) | (with_reducible refine Grew.alloc ?_ _) | (with_reducible refine Grew.app_r ?_) | ((with_reducible refine Grew.setCell ?_ ?_ _); rotate_left; (focus (dsimp only; first | omega | (simp only [size_ext, World.size_alloc, Array.size_append]; omega)))) | (with_reducible refine Grew.ext ?_ _ _) | (with_reducible refine Grew.drewN ?_ _) | (with_reducible refine Grew.drew ?_))))⟩
                · rw [fX] at hfX
                  cases fY : finL Y
                  · rw [fY] at hfY
                    clear fT fX fY
                    go_wp2_with (first | (go_at_call 91; ((with_reducible refine (awake22 _).mono ?_); rintro e w1 ⟨rfl, o1, n1, rfl⟩)) | (go_at_call 25; ((with_reducible refine (hfT' _ (by (show Grew _ _; (try simp only [← Array.append_assoc]); repeat (first | (with_reducible exact Grew.same_o) | (with_reducible exact Grew.refl _) | (with_reducible assumption) | (with_reducible refine Grew.alloc ?_ _) | (with_reducible refine Grew.app_r ?_) | ((with_reducible refine Grew.setCell ?_ ?_ _); rotate_left; (focus (dsimp only; first | omega | (simp only [size_ext, World.size_alloc, Array.size_append]; omega)))) | (with_reducible refine Grew.ext ?_ _ _) | (with_reducible refine Grew.drewN ?_ _) | (with_reducible refine Grew.drew ?_))))).mono ?_); rintro e w1 ⟨rfl, rfl⟩)) | (go_at_call 25; ((with_reducible refine (hfX _ (Grew.trans gwU (by (show Grew _ _; (try simp only [← Array.append_assoc]); repeat (first | (with_reducible exact Grew.same_o) | (with_reducible exact Grew.refl _) | (with_reducible assumption) | (with_reducible refine Grew.alloc ?_ _) | (with_reducible refine Grew.app_r ?_) | ((with_reducible refine Grew.setCell ?_ ?_ _); rotate_left; (focus (dsimp only; first | omega | (simp only [size_ext, World.size_alloc, Array.size_append]; omega)))) | (with_reducible refine Grew.ext ?_ _ _) | (with_reducible refine Grew.drewN ?_ _) | (with_reducible refine Grew.drew ?_)))))).mono ?_); rintro e w1 ⟨rfl, rfl⟩)) | (go_at_call 25; ((with_reducible refine (hfY _ (Grew.trans gwU (by (show Grew _ _; (try simp only [← Array.append_assoc]); repeat (first | (with_reducible exact Grew.same_o) | (with_reducible exact Grew.refl _) | (with_reducible assumption) | (with_reducible refine Grew.alloc ?_ _) | (with_reducible refine Grew.app_r ?_) | ((with_reducible refine Grew.setCell ?_ ?_ _); rotate_left; (focus (dsimp only; first | omega | (simp only [size_ext, World.size_alloc, Array.size_append]; omega)))) | (with_reducible refine Grew.ext ?_ _ _) | (with_reducible refine Grew.drewN ?_ _) | (with_reducible refine Grew.drew ?_)))))).mono ?_); rintro e w1 ⟨rfl, rfl⟩)) | (go_at_call 25; ((with_reducible refine (hfF _ (by (show Grew _ _; (try simp only [← Array.append_assoc]); repeat (first | (with_reducible exact Grew.same_o) | (with_reducible exact Grew.refl _) | (with_reducible assumption) | (with_reducible refine Grew.alloc ?_ _) | (with_reducible refine Grew.app_r ?_) | ((with_reducible refine Grew.setCell ?_ ?_ _); rotate_left; (focus (dsimp only; first | omega | (simp only [size_ext, World.size_alloc, Array.size_append]; omega)))) | (with_reducible refine Grew.ext ?_ _ _) | (with_reducible refine Grew.drewN ?_ _) | (with_reducible refine Grew.drew ?_))))).mono ?_); rintro e w1 ⟨rfl, rfl⟩)))
                    go_ret
                    exact ⟨rfl, Grew.trans gwU (by (show Grew _ _; (try simp only [← Array.append_assoc]); repeat (first | (with_reducible exact Grew.same_o) | (with_reducible exact Grew.refl _) | (with_reducible assumption) | (with_reducible refine Grew.alloc ?_ _) | (with_reducible refine Grew.app_r ?_) | ((with_reducible refine Grew.setCell ?_ ?_ _); rotate_left; (focus (dsimp only; first | omega | (simp only [size_ext, World.size_alloc, Array.size_append]; omega)))) | (with_reducible refine Grew.ext ?_ _ _) | (with_reducible refine Grew.drewN ?_ _) | (with_reducible refine Grew.drew ?_))))⟩
                  · rw [fY] at hfY
                    cases fF : finL F
                    · rw [fF] at hfF
                      clear fT fX fY fF
                      go_wp2_with (first | (go_at_call 91; ((with_reducible refine (awake22 _).mono ?_); rintro e w1 ⟨rfl, o1, n1, rfl⟩)) | (go_at_call 25; ((with_reducible refine (hfT' _ (by (show Grew _ _; (try simp only [← Array.append_assoc]); repeat (first | (with_reducible exact Grew.same_o) | (with_reducible exact Grew.refl _) | (with_reducible assumption) | (with_reducible refine Grew.alloc ?_ _) | (with_reducible refine Grew.app_r ?_) | ((with_reducible refine Grew.setCell ?_ ?_ _); rotate_left; (focus (dsimp only; first | omega | (simp only [size_ext, World.size_alloc, Array.size_append]; omega)))) | (with_reducible refine Grew.ext ?_ _ _) | (with_reducible refine Grew.drewN ?_ _) | (with_reducible refine Grew.drew ?_))))).mono ?_); rintro e w1 ⟨rfl, rfl⟩)) | (go_at_call 25; ((with_reducible refine (hfX _ (Grew.trans gwU (by (show Grew _ _; (try simp only [← Array.append_assoc]); repeat (first | (with_reducible exact Grew.same_o) | (with_reducible exact Grew.refl _) | (with_reducible assumption) | (with_reducible refine Grew.alloc ?_ _) | (with_reducible refine Grew.app_r ?_) | ((with_reducible refine Grew.setCell ?_ ?_ _); rotate_left; (focus (dsimp only; first | omega | (simp only [size_ext, World.size_alloc, Array.size_append]; omega)))) | (with_reducible refine Grew.ext ?_ _ _) | (with_reducible refine Grew.drewN ?_ _) | (with_reducible refine Grew.drew ?_)))))).mono ?_); rintro e w1 ⟨rfl, rfl⟩)) | (go_at_call 25; ((with_reducible refine (hfY _ (Grew.trans gwU (by (show Grew _ _; (try simp only [← Array.append_assoc]); repeat (first | (with_reducible exact Grew.same_o) | (with_reducible exact Grew.refl _) | (with_reducible assumption) | (with_reducible refine Grew.alloc ?_ _) | (with_reducible refine Grew.app_r ?_) | ((with_reducible refine Grew.setCell ?_ ?_ _); rotate_left; (focus (dsimp only; first | omega | (simp only [size_ext, World.size_alloc, Array.size_append]; omega)))) | (with_reducible refine Grew.ext ?_ _ _) | (with_reducible refine Grew.drewN ?_ _) | (with_reducible refine Grew.drew ?_)))))).mono ?_); rintro e w1 ⟨rfl, rfl⟩)) | (go_at_call 25; ((with_reducible refine (hfF _ (by (show Grew _ _; (try simp only [← Array.append_assoc]); repeat (first | (with_reducible exact Grew.same_o) | (with_reducible exact Grew.refl _) | (with_reducible assumption) | (with_reducible refine Grew.alloc ?_ _) | (with_reducible refine Grew.app_r ?_) | ((with_reducible refine Grew.setCell ?_ ?_ _); rotate_left; (focus (dsimp only; first | omega | (simp only [size_ext, World.size_alloc, Array.size_append]; omega)))) | (with_reducible refine Grew.ext ?_ _ _) | (with_reducible refine Grew.drewN ?_ _) | (with_reducible refine Grew.drew ?_))))).mono ?_); rintro e w1 ⟨rfl, rfl⟩)))
                      go_ret
                      exact ⟨rfl, Grew.trans gwU (by (show Grew _ _; (try simp only [← Array.append_assoc]); repeat (first | (with_reducible exact Grew.same_o) | (with_reducible exact Grew.refl _) | (with_reducible assumption) | (with_reducible refine Grew.alloc ?_ _) | (with_reducible refine Grew.app_r ?_) | ((with_reducible refine Grew.setCell ?_ ?_ _); rotate_left; (focus (dsimp only; first | omega | (simp only [size_ext, World.size_alloc, Array.size_append]; omega)))) | (with_reducible refine Grew.ext ?_ _ _) | (with_reducible refine Grew.drewN ?_ _) | (with_reducible refine Grew.drew ?_))))⟩
                    · rw [fF] at hfF
                      have HFF := hid fF
                      clear fT fX fY fF
                      go_wp2_with (first | (go_at_call 25; ((with_reducible refine (hfT' _ (by (show Grew _ _; (try simp only [← Array.append_assoc]); repeat (first | (with_reducible exact Grew.same_o) | (with_reducible exact Grew.refl _) | (with_reducible assumption) | (with_reducible refine Grew.alloc ?_ _) | (with_reducible refine Grew.app_r ?_) | ((with_reducible refine Grew.setCell ?_ ?_ _); rotate_left; (focus (dsimp only; first | omega | (simp only [size_ext, World.size_alloc, Array.size_append]; omega)))) | (with_reducible refine Grew.ext ?_ _ _) | (with_reducible refine Grew.drewN ?_ _) | (with_reducible refine Grew.drew ?_))))).mono ?_); rintro e w1 ⟨rfl, rfl⟩)) | (go_at_call 25; ((with_reducible refine (hfX _ (Grew.trans gwU (by (show Grew _ _; (try simp only [← Array.append_assoc]); repeat (first | (with_reducible exact Grew.same_o) | (with_reducible exact Grew.refl _) | (with_reducible assumption) | (with_reducible refine Grew.alloc ?_ _) | (with_reducible refine Grew.app_r ?_) | ((with_reducible refine Grew.setCell ?_ ?_ _); rotate_left; (focus (dsimp only; first | omega | (simp only [size_ext, World.size_alloc, Array.size_append]; omega)))) | (with_reducible refine Grew.ext ?_ _ _) | (with_reducible refine Grew.drewN ?_ _) | (with_reducible refine Grew.drew ?_)))))).mono ?_); rintro e w1 ⟨rfl, rfl⟩)) | (go_at_call 25; ((with_reducible refine (hfY _ (Grew.trans gwU (by (show Grew _ _; (try simp only [← Array.append_assoc]); repeat (first | (with_reducible exact Grew.same_o) | (with_reducible exact Grew.refl _) | (with_reducible assumption) | (with_reducible refine Grew.alloc ?_ _) | (with_reducible refine Grew.app_r ?_) | ((with_reducible refine Grew.setCell ?_ ?_ _); rotate_left; (focus (dsimp only; first | omega | (simp only [size_ext, World.size_alloc, Array.size_append]; omega)))) | (with_reducible refine Grew.ext ?_ _ _) | (with_reducible refine Grew.drewN ?_ _) | (with_reducible refine Grew.drew ?_)))))).mono ?_); rintro e w1 ⟨rfl, rfl⟩)) | (go_at_call 25; ((with_reducible refine (hfF _ (by (show Grew _ _; (try simp only [← Array.append_assoc]); repeat (first | (with_reducible exact Grew.same_o) | (with_reducible exact Grew.refl _) | (with_reducible assumption) | (with_reducible refine Grew.alloc ?_ _) | (with_reducible refine Grew.app_r ?_) | ((with_reducible refine Grew.setCell ?_ ?_ _); rotate_left; (focus (dsimp only; first | omega | (simp only [size_ext, World.size_alloc, Array.size_append]; omega)))) | (with_reducible refine Grew.ext ?_ _ _) | (with_reducible refine Grew.drewN ?_ _) | (with_reducible refine Grew.drew ?_))))).mono ?_); rintro e w1 ⟨rfl, rfl⟩)))
                      go_loopw [13] (fun c wx => ∃ (i : Nat) (o : Array Obj) (k : Nat), i ≤ n ∧ c = .int .i64 i ∧ wx = ext U o k) (fun c _ => n - (intOf c).toNat)
                      case atStart => exact ⟨0, #[], _, Nat.zero_le _, rfl, ext_zero.symm⟩
                      case round =>
                        obtain ⟨i, oo, kk, hi, rfl, rfl⟩ := hrel
                        by_cases hin : i < n
                        · have dl : decide ((i : Int) < m.rows) = true := by rw [HN.out]; simpa using hin
                          have hin' : ((i : Int) < m.rows) = True := by rw [HN.out]; simpa using hin
                          have hff := finL_at HFF.out (i := i) (by rw [HLF.out]; exact hin)
                          obtain ⟨blk, so, ex, hblk, hcl⟩ := hv3.at.2 (by rw [HLF.out]; omega)
                          subst ex
                          obtain ⟨bf, hbf, hff2⟩ := hcl i (by rw [HLF.out]; exact hin)
                          have hex := fun w' g => HEX.out aT cT i w' hin (Grew.trans gwU g) (hTU.grew g)
                          obtain ⟨Z, hZ⟩ : ∃ Z, Z = sgE ((exS (val (Y.getD i 0)) (prT n T X i) n).abs - val (F.getD i 0)) := ⟨_, rfl⟩
                          have hZ0 : Z ≤ 0 := by rw [hZ]; exact HLAW.out i hin (by rw [fin_finB hff2.lt]; exact hff)
                          have dZ : decide (0 < Z) = false := by simp; omega
                          obtain ⟨qS, hqS⟩ : ∃ q, q = exS (val (Y.getD i 0)) (prT n T X i) n := ⟨_, rfl⟩
                          obtain ⟨qB, hqB⟩ : ∃ q, q = exB (val (Y.getD i 0)) (prT n T X i) n := ⟨_, rfl⟩
                          obtain ⟨ξ, hξ⟩ : ∃ ξ, ξ = F.getD i 0 := ⟨_, rfl⟩
                          rw [← hqS, ← hqB] at hex
                          rw [← hqS, ← hξ] at hZ
                          rw [← hξ] at hff2
                          have HB := hid hff2
                          have HZ := hid hZ
                          clear hcl hff hff2 hqS hqB hξ hZ hZ0
                          go_upto_region 16 with (first | (go_at_call 95; ((with_reducible refine (hex _ (by (show Grew _ _; (try simp only [← Array.append_assoc]); repeat (first | (with_reducible exact Grew.same_o) | (with_reducible exact Grew.refl _) | (with_reducible assumption) | (with_reducible refine Grew.alloc ?_ _) | (with_reducible refine Grew.app_r ?_) | ((with_reducible refine Grew.setCell ?_ ?_ _); rotate_left; (focus (dsimp only; first | omega | (simp only [size_ext, World.size_alloc, Array.size_append]; omega)))) | (with_reducible refine Grew.ext ?_ _ _) | (with_reducible refine Grew.drewN ?_ _) | (with_reducible refine Grew.drew ?_))))).mono ?_); rintro e w1 ⟨v1, v2, rfl, hv1, hv2, o1, n1, rfl⟩; (obtain ⟨p1, p2, p3, p4, p5, rfl⟩ := hv1.shape); (obtain ⟨q1, q2, q3, q4, q5, rfl⟩ := hv2.shape); (try simp only [ext_ext] at hv1))))
                          refine name_any (fun A hA => ?_)
                          try simp only [ext_ext] at hv1
                          obtain ⟨k14, hk14⟩ : ∃ k14, k14 = U.heap.size + (oo.size + o1.size) := ⟨_, rfl⟩
                          have gA : Grew U A := by rw [← hA]; (show Grew _ _; (try simp only [← Array.append_assoc]); repeat (first | (with_reducible exact Grew.same_o) | (with_reducible exact Grew.refl _) | (with_reducible assumption) | (with_reducible refine Grew.alloc ?_ _) | (with_reducible refine Grew.app_r ?_) | ((with_reducible refine Grew.setCell ?_ ?_ _); rotate_left; (focus (dsimp only; first | omega | (simp only [size_ext, World.size_alloc, Array.size_append]; omega)))) | (with_reducible refine Grew.ext ?_ _ _) | (with_reducible refine Grew.drewN ?_ _) | (with_reducible refine Grew.drew ?_)))
                          have c14 : ∀ i, A.cell? ⟨k14, i, none⟩ = (#[.bool p1, .slice p2 p3 p4, .int .i64 p5] : Array Value)[i]? := by subst hA; rw [hk14]; intro i; go_simp
                          have z14 : k14 < A.heap.size := by rw [← hA, hk14]; simp only [World.size_alloc, size_ext, Array.size_append]; omega
                          have hS : DV A (.agg #[.bool p1, .slice p2 p3 p4, .int .i64 p5]) qS (-150) 250 := hv1.grew (by rw [← hA]; (show Grew _ _; (try simp only [← Array.append_assoc]); repeat (first | (with_reducible exact Grew.same_o) | (with_reducible exact Grew.refl _) | (with_reducible assumption) | (with_reducible refine Grew.alloc ?_ _) | (with_reducible refine Grew.app_r ?_) | ((with_reducible refine Grew.setCell ?_ ?_ _); rotate_left; (focus (dsimp only; first | omega | (simp only [size_ext, World.size_alloc, Array.size_append]; omega)))) | (with_reducible refine Grew.ext ?_ _ _) | (with_reducible refine Grew.drewN ?_ _) | (with_reducible refine Grew.drew ?_))))
                          have hbA : A.cell? ⟨blk, so + i, none⟩ = some (.float .f64 bf) := (gA.cell hblk).trans hbf
                          have kbA : blk < A.heap.size := Nat.lt_of_lt_of_le hblk gA.below.size
                          have hcm : ∀ V1 V2 w', DV w' V1 qS.abs (-150) 250 → DV w' V2 (val ξ) (-150) 250 → Calls Try.prog 34 #[V1, V2] w' (fun e w2 => e = .returned (.int .i64 Z) ∧ ∃ o n, w2 = ext w' o n) := fun V1 V2 w' h1 h2 => by
                            rw [HZ.out]; exact dcmp_any _ _ _ _ (-150) 250 w' h1 h2 (by decide) (by decide)
                          simp only [← hk14]
                          clear hA hk14 hv1 hv2 hex hbf
                          refine wp_region_R (Grew A) [] [(0,0), (0,2), (0,3), (0,4), (0,5), (1,1), (1,6), (1,7), (0,8)] (by kernel_rfl) (by kernel_rfl) (fun _ _ _ _ h _ => h) (by first | exact ⟨_, _, ext_drew⟩ | exact ⟨_, _, drew_ext0⟩ | (show Grew _ _; repeat (first | (with_reducible exact Grew.refl _) | (with_reducible assumption) | (with_reducible exact Grew.same_o) | (with_reducible exact Grew.app_o) | (with_reducible refine Grew.ext ?_ _ _) | (with_reducible refine Grew.alloc ?_ _) | ((with_reducible refine Grew.setCell ?_ ?_ _); rotate_left; (focus (dsimp only; first | omega | (simp only [size_ext, World.size_alloc, Array.size_append]; omega)))) | (with_reducible refine Grew.drewN ?_ _) | (with_reducible refine Grew.drew ?_)))) ?_
                          go_wp2_with (first | ((with_reducible refine wpR_id ?_); first | (refine wpR_take (v := ?_) rfl rfl ?_ ?_; rotate_left; (focus (rintro w' ⟨o', n', rfl⟩; go_simp; try with_reducible rfl)); simp only [Act.put, List.setIfInBounds_toArray, List.set_cons_zero, List.set_cons_succ]) | (refine wpR_pure (v := ?_) rfl rfl ?_ ?_; rotate_left; (focus (intro w'; go_simp; try with_reducible rfl)); simp only [Act.put, List.setIfInBounds_toArray, List.set_cons_zero, List.set_cons_succ]) | (refine wpR_takeG (v := ?_) rfl rfl rfl rfl rfl ?_ ?_; rotate_left; (focus (rintro w' ⟨o', n', rfl⟩; go_simp; try with_reducible rfl)); simp only [Act.put, List.setIfInBounds_toArray, List.set_cons_zero, List.set_cons_succ]) | (refine wpR_skip rfl rfl rfl rfl rfl rfl ?_; simp only [Act.put, List.setIfInBounds_toArray, List.set_cons_zero, List.set_cons_succ]) | (refine wpR_skipU rfl rfl rfl rfl rfl ?_; simp only [Act.put, List.setIfInBounds_toArray, List.set_cons_zero, List.set_cons_succ]) | (refine wpR_do rfl rfl (fun K hK => ?_)) | (refine wpR_doG rfl rfl rfl rfl rfl (fun K hK => ?_)) | (refine wpR_last rfl rfl (fun K hK => ?_)) | (refine wpR_nil ?_)) | ((with_reducible refine wpR_go ?_ ?_); (focus (show Grew _ _; repeat (first | (with_reducible exact Grew.refl _) | (with_reducible assumption) | (with_reducible exact Grew.same_o) | (with_reducible exact Grew.app_o) | (with_reducible refine Grew.ext ?_ _ _) | (with_reducible refine Grew.alloc ?_ _) | ((with_reducible refine Grew.setCell ?_ ?_ _); rotate_left; (focus (dsimp only; first | omega | (simp only [size_ext, World.size_alloc, Array.size_append]; omega)))) | (with_reducible refine Grew.drewN ?_ _) | (with_reducible refine Grew.drew ?_))))) | ((with_reducible refine upon_id ?_); refine upon_fop rfl (by assumption) (by assumption) ?_; intro rr nn hr) | (go_at_call 30; ((with_reducible refine (dabs_any _ _ _ _ _ (hS.grew (by (show Grew _ _; (try simp only [← Array.append_assoc]); repeat (first | (with_reducible exact Grew.same_o) | (with_reducible exact Grew.refl _) | (with_reducible assumption) | (with_reducible refine Grew.alloc ?_ _) | (with_reducible refine Grew.app_r ?_) | ((with_reducible refine Grew.setCell ?_ ?_ _); rotate_left; (focus (dsimp only; first | omega | (simp only [size_ext, World.size_alloc, Array.size_append]; omega)))) | (with_reducible refine Grew.ext ?_ _ _) | (with_reducible refine Grew.drewN ?_ _) | (with_reducible refine Grew.drew ?_)))))).mono ?_); rintro e w1 ⟨va, rfl, hva, hka, oa, na, rfl⟩; (obtain ⟨x1, x2, x3, x4, x5, rfl⟩ := hva.shape); (try simp only [drew_ext, drewN_ext, ext_ext] at hva))) | (go_at_call 27; ((with_reducible refine (of_any bf ξ _ HB.out).mono ?_); rintro e w1 ⟨vb, rfl, hvb, hkb, ob, nb, rfl⟩; (obtain ⟨y1, y2, y3, y4, y5, rfl⟩ := hvb.shape); (try simp only [drew_ext, drewN_ext, ext_ext] at hvb))) | (go_at_call 34; ((with_reducible refine (hcm _ _ _ (hva.grew (by (show Grew _ _; (try simp only [← Array.append_assoc]); repeat (first | (with_reducible exact Grew.same_o) | (with_reducible exact Grew.refl _) | (with_reducible assumption) | (with_reducible refine Grew.alloc ?_ _) | (with_reducible refine Grew.app_r ?_) | ((with_reducible refine Grew.setCell ?_ ?_ _); rotate_left; (focus (dsimp only; first | omega | (simp only [size_ext, World.size_alloc, Array.size_append]; omega)))) | (with_reducible refine Grew.ext ?_ _ _) | (with_reducible refine Grew.drewN ?_ _) | (with_reducible refine Grew.drew ?_))))) ((hvb.grew (by (show Grew _ _; (try simp only [← Array.append_assoc]); repeat (first | (with_reducible exact Grew.same_o) | (with_reducible exact Grew.refl _) | (with_reducible assumption) | (with_reducible refine Grew.alloc ?_ _) | (with_reducible refine Grew.app_r ?_) | ((with_reducible refine Grew.setCell ?_ ?_ _); rotate_left; (focus (dsimp only; first | omega | (simp only [size_ext, World.size_alloc, Array.size_append]; omega)))) | (with_reducible refine Grew.ext ?_ _ _) | (with_reducible refine Grew.drewN ?_ _) | (with_reducible refine Grew.drew ?_))))).mono (by decide) (by decide))).mono ?_); rintro e w1 ⟨rfl, oc, nc, rfl⟩)))
                          go_roundw
                          case rel =>
                            obtain ⟨oX, nX, hX⟩ := Grew.trans gA (⟨_, _, rfl⟩ : Grew A (ext A (oa ++ (ob ++ oc)) nc))
                            exact ⟨i + 1, oX, nX, hin, by go_num, hX⟩
                          case measure => simp [intOf]; omega
                        · have dl : decide ((i : Int) < m.rows) = false := by rw [HN.out]; simp; omega
                          go_wp2_with (first | (go_at_call 91; ((with_reducible refine (awake22 _).mono ?_); rintro e w1 ⟨rfl, o1, n1, rfl⟩)))
                          go_ret
                          exact ⟨rfl, Grew.trans gwU (by (show Grew _ _; (try simp only [← Array.append_assoc]); repeat (first | (with_reducible exact Grew.same_o) | (with_reducible exact Grew.refl _) | (with_reducible assumption) | (with_reducible refine Grew.alloc ?_ _) | (with_reducible refine Grew.app_r ?_) | ((with_reducible refine Grew.setCell ?_ ?_ _); rotate_left; (focus (dsimp only; first | omega | (simp only [size_ext, World.size_alloc, Array.size_append]; omega)))) | (with_reducible refine Grew.ext ?_ _ _) | (with_reducible refine Grew.drewN ?_ _) | (with_reducible refine Grew.drew ?_))))⟩
            · have d4 : ((Y.length : Int) != m.rows) = true := by simpa using r4
              clear hg hgd r1 r2 r3 r4
              go_enter Try.func16, Try.ntmps16
              refine seq_stop ?_
              go_wp2
              refine stop_go (fun W hW => ?_)
              have s1 : w.heap.size < W.heap.size := by rw [hW]; simp only [World.size_alloc]; omega
              have b1 : ∀ i, W.cell? ⟨w.heap.size, i, none⟩ = (#[D, .int .i64 m.off, .int .i64 m.rows, .int .i64 m.cols, .int .i64 m.ld] : Array Value)[i]? := by intro i; rw [hW]; go_simp
              have g0 : Grew w W := by rw [hW]; exact (Grew.refl _).alloc _
              clear hW
              go_wp2_with (first | (go_at_call 91; ((with_reducible refine (awake22 _).mono ?_); rintro e w1 ⟨rfl, o1, n1, rfl⟩)) | (go_at_call 42; ((with_reducible refine (hgr _ (Grew.trans g0 (by (show Grew _ _; repeat (first | (with_reducible exact Grew.refl _) | (with_reducible assumption) | (with_reducible exact Grew.same_o) | (with_reducible exact Grew.app_o) | (with_reducible refine Grew.ext ?_ _ _) | (with_reducible refine Grew.alloc ?_ _) | ((with_reducible refine Grew.setCell ?_ ?_ _); rotate_left; (focus (dsimp only; first | omega | (simp only [size_ext, World.size_alloc, Array.size_append]; omega)))) | (with_reducible refine Grew.drewN ?_ _) | (with_reducible refine Grew.drew ?_)))))).mono ?_); rintro e w1 ⟨rfl, o2, n2, rfl⟩)) | (go_at_call 46; ((with_reducible refine (hgo _ (Grew.trans g0 (by (show Grew _ _; repeat (first | (with_reducible exact Grew.refl _) | (with_reducible assumption) | (with_reducible exact Grew.same_o) | (with_reducible exact Grew.app_o) | (with_reducible refine Grew.ext ?_ _ _) | (with_reducible refine Grew.alloc ?_ _) | ((with_reducible refine Grew.setCell ?_ ?_ _); rotate_left; (focus (dsimp only; first | omega | (simp only [size_ext, World.size_alloc, Array.size_append]; omega)))) | (with_reducible refine Grew.drewN ?_ _) | (with_reducible refine Grew.drew ?_)))))).mono ?_); rintro e w1 ⟨rfl, o3, n3, rfl⟩)))
              go_ret
              exact ⟨rfl, Grew.trans g0 (by (show Grew _ _; repeat (first | (with_reducible exact Grew.refl _) | (with_reducible assumption) | (with_reducible exact Grew.same_o) | (with_reducible exact Grew.app_o) | (with_reducible refine Grew.ext ?_ _ _) | (with_reducible refine Grew.alloc ?_ _) | ((with_reducible refine Grew.setCell ?_ ?_ _); rotate_left; (focus (dsimp only; first | omega | (simp only [size_ext, World.size_alloc, Array.size_append]; omega)))) | (with_reducible refine Grew.drewN ?_ _) | (with_reducible refine Grew.drew ?_))))⟩
          · have d3 : ((X.length : Int) != m.rows) = true := by simpa using r3
            clear hg hgd r1 r2 r3
            go_enter Try.func16, Try.ntmps16
            refine seq_stop ?_
            go_wp2
            refine stop_go (fun W hW => ?_)
            have s1 : w.heap.size < W.heap.size := by rw [hW]; simp only [World.size_alloc]; omega
            have b1 : ∀ i, W.cell? ⟨w.heap.size, i, none⟩ = (#[D, .int .i64 m.off, .int .i64 m.rows, .int .i64 m.cols, .int .i64 m.ld] : Array Value)[i]? := by intro i; rw [hW]; go_simp
            have g0 : Grew w W := by rw [hW]; exact (Grew.refl _).alloc _
            clear hW
            go_wp2_with (first | (go_at_call 91; ((with_reducible refine (awake22 _).mono ?_); rintro e w1 ⟨rfl, o1, n1, rfl⟩)) | (go_at_call 42; ((with_reducible refine (hgr _ (Grew.trans g0 (by (show Grew _ _; repeat (first | (with_reducible exact Grew.refl _) | (with_reducible assumption) | (with_reducible exact Grew.same_o) | (with_reducible exact Grew.app_o) | (with_reducible refine Grew.ext ?_ _ _) | (with_reducible refine Grew.alloc ?_ _) | ((with_reducible refine Grew.setCell ?_ ?_ _); rotate_left; (focus (dsimp only; first | omega | (simp only [size_ext, World.size_alloc, Array.size_append]; omega)))) | (with_reducible refine Grew.drewN ?_ _) | (with_reducible refine Grew.drew ?_)))))).mono ?_); rintro e w1 ⟨rfl, o2, n2, rfl⟩)) | (go_at_call 46; ((with_reducible refine (hgo _ (Grew.trans g0 (by (show Grew _ _; repeat (first | (with_reducible exact Grew.refl _) | (with_reducible assumption) | (with_reducible exact Grew.same_o) | (with_reducible exact Grew.app_o) | (with_reducible refine Grew.ext ?_ _ _) | (with_reducible refine Grew.alloc ?_ _) | ((with_reducible refine Grew.setCell ?_ ?_ _); rotate_left; (focus (dsimp only; first | omega | (simp only [size_ext, World.size_alloc, Array.size_append]; omega)))) | (with_reducible refine Grew.drewN ?_ _) | (with_reducible refine Grew.drew ?_)))))).mono ?_); rintro e w1 ⟨rfl, o3, n3, rfl⟩)))
            go_ret
            exact ⟨rfl, Grew.trans g0 (by (show Grew _ _; repeat (first | (with_reducible exact Grew.refl _) | (with_reducible assumption) | (with_reducible exact Grew.same_o) | (with_reducible exact Grew.app_o) | (with_reducible refine Grew.ext ?_ _ _) | (with_reducible refine Grew.alloc ?_ _) | ((with_reducible refine Grew.setCell ?_ ?_ _); rotate_left; (focus (dsimp only; first | omega | (simp only [size_ext, World.size_alloc, Array.size_append]; omega)))) | (with_reducible refine Grew.drewN ?_ _) | (with_reducible refine Grew.drew ?_))))⟩
        · have d2 : (m.rows != m.cols) = true := by simpa using r2
          clear hg hgd r1 r2
          go_enter Try.func16, Try.ntmps16
          refine seq_stop ?_
          go_wp2
          refine stop_go (fun W hW => ?_)
          have s1 : w.heap.size < W.heap.size := by rw [hW]; simp only [World.size_alloc]; omega
          have b1 : ∀ i, W.cell? ⟨w.heap.size, i, none⟩ = (#[D, .int .i64 m.off, .int .i64 m.rows, .int .i64 m.cols, .int .i64 m.ld] : Array Value)[i]? := by intro i; rw [hW]; go_simp
          have g0 : Grew w W := by rw [hW]; exact (Grew.refl _).alloc _
          clear hW
          go_wp2_with (first | (go_at_call 91; ((with_reducible refine (awake22 _).mono ?_); rintro e w1 ⟨rfl, o1, n1, rfl⟩)) | (go_at_call 42; ((with_reducible refine (hgr _ (Grew.trans g0 (by (show Grew _ _; repeat (first | (with_reducible exact Grew.refl _) | (with_reducible assumption) | (with_reducible exact Grew.same_o) | (with_reducible exact Grew.app_o) | (with_reducible refine Grew.ext ?_ _ _) | (with_reducible refine Grew.alloc ?_ _) | ((with_reducible refine Grew.setCell ?_ ?_ _); rotate_left; (focus (dsimp only; first | omega | (simp only [size_ext, World.size_alloc, Array.size_append]; omega)))) | (with_reducible refine Grew.drewN ?_ _) | (with_reducible refine Grew.drew ?_)))))).mono ?_); rintro e w1 ⟨rfl, o2, n2, rfl⟩)) | (go_at_call 46; ((with_reducible refine (hgo _ (Grew.trans g0 (by (show Grew _ _; repeat (first | (with_reducible exact Grew.refl _) | (with_reducible assumption) | (with_reducible exact Grew.same_o) | (with_reducible exact Grew.app_o) | (with_reducible refine Grew.ext ?_ _ _) | (with_reducible refine Grew.alloc ?_ _) | ((with_reducible refine Grew.setCell ?_ ?_ _); rotate_left; (focus (dsimp only; first | omega | (simp only [size_ext, World.size_alloc, Array.size_append]; omega)))) | (with_reducible refine Grew.drewN ?_ _) | (with_reducible refine Grew.drew ?_)))))).mono ?_); rintro e w1 ⟨rfl, o3, n3, rfl⟩)))
          go_ret
          exact ⟨rfl, Grew.trans g0 (by (show Grew _ _; repeat (first | (with_reducible exact Grew.refl _) | (with_reducible assumption) | (with_reducible exact Grew.same_o) | (with_reducible exact Grew.app_o) | (with_reducible refine Grew.ext ?_ _ _) | (with_reducible refine Grew.alloc ?_ _) | ((with_reducible refine Grew.setCell ?_ ?_ _); rotate_left; (focus (dsimp only; first | omega | (simp only [size_ext, World.size_alloc, Array.size_append]; omega)))) | (with_reducible refine Grew.drewN ?_ _) | (with_reducible refine Grew.drew ?_))))⟩
  · rw [hg] at hgr
    clear hg
    go_enter Try.func16, Try.ntmps16
    refine seq_stop ?_
    go_wp2
    refine stop_go (fun W hW => ?_)
    have s1 : w.heap.size < W.heap.size := by rw [hW]; simp only [World.size_alloc]; omega
    have b1 : ∀ i, W.cell? ⟨w.heap.size, i, none⟩ = (#[D, .int .i64 m.off, .int .i64 m.rows, .int .i64 m.cols, .int .i64 m.ld] : Array Value)[i]? := by intro i; rw [hW]; go_simp
    have g0 : Grew w W := by rw [hW]; exact (Grew.refl _).alloc _
    clear hW
    go_wp2_with (first | (go_at_call 91; ((with_reducible refine (awake22 _).mono ?_); rintro e w1 ⟨rfl, o1, n1, rfl⟩)) | (go_at_call 42; ((with_reducible refine (hgr _ (Grew.trans g0 (by (show Grew _ _; repeat (first | (with_reducible exact Grew.refl _) | (with_reducible assumption) | (with_reducible exact Grew.same_o) | (with_reducible exact Grew.app_o) | (with_reducible refine Grew.ext ?_ _ _) | (with_reducible refine Grew.alloc ?_ _) | ((with_reducible refine Grew.setCell ?_ ?_ _); rotate_left; (focus (dsimp only; first | omega | (simp only [size_ext, World.size_alloc, Array.size_append]; omega)))) | (with_reducible refine Grew.drewN ?_ _) | (with_reducible refine Grew.drew ?_)))))).mono ?_); rintro e w1 ⟨rfl, o2, n2, rfl⟩)) | (go_at_call 46; ((with_reducible refine (hgo _ (Grew.trans g0 (by (show Grew _ _; repeat (first | (with_reducible exact Grew.refl _) | (with_reducible assumption) | (with_reducible exact Grew.same_o) | (with_reducible exact Grew.app_o) | (with_reducible refine Grew.ext ?_ _ _) | (with_reducible refine Grew.alloc ?_ _) | ((with_reducible refine Grew.setCell ?_ ?_ _); rotate_left; (focus (dsimp only; first | omega | (simp only [size_ext, World.size_alloc, Array.size_append]; omega)))) | (with_reducible refine Grew.drewN ?_ _) | (with_reducible refine Grew.drew ?_)))))).mono ?_); rintro e w1 ⟨rfl, o3, n3, rfl⟩)))
    go_ret
    exact ⟨rfl, Grew.trans g0 (by (show Grew _ _; repeat (first | (with_reducible exact Grew.refl _) | (with_reducible assumption) | (with_reducible exact Grew.same_o) | (with_reducible exact Grew.app_o) | (with_reducible refine Grew.ext ?_ _ _) | (with_reducible refine Grew.alloc ?_ _) | ((with_reducible refine Grew.setCell ?_ ?_ _); rotate_left; (focus (dsimp only; first | omega | (simp only [size_ext, World.size_alloc, Array.size_append]; omega)))) | (with_reducible refine Grew.drewN ?_ _) | (with_reducible refine Grew.drew ?_))))⟩
end Go.Proofs.Ytcmggfpcbijcjaa
end
section
/-
  The dump's head as a list of signs, laid by their numbers: the kernel reckons on such a list, not on the text.
-/
set_option linter.unusedSimpArgs false
set_option linter.unusedVariables false
namespace Go.Proofs.Ytcmggfpcbijcjaa
theorem may_cut {P : Program} {c : List Char} {rest : List (List Char)} (h : behindMainWord (wordsSigns P.initOrder.toList) = c :: rest) (hs : stripLifts liftWords (c :: rest) = ([], c :: rest))
    (hc : (c == "cut".toList) = true) (hl : P.laysLater = false) (hr : P.bearsReflect = false) (hd : P.doorFits [] = true) : P.mayEnter = true := by
  have hc' : c = "cut".toList := by simpa using hc
  unfold Program.mayEnter
  rw [h]
  simp only [hs, hl, hr, hd, List.head?_cons, List.contains_nil, Bool.false_or, Bool.not_false, Bool.and_true, Bool.or_true]
  rw [hc']
  simp
theorem final_cut {P : Program} {c : List Char} {rest : List (List Char)} (h : behindMainWord (wordsSigns P.initOrder.toList) = c :: rest) (hs : stripLifts liftWords (c :: rest) = ([], c :: rest))
    (hc : (c == "carried".toList) = false) : P.liftsFinal = false := by
  unfold Program.liftsFinal Program.headLifts
  simp only [h, hs, List.head?_cons, List.contains_nil, ite_self, Bool.or_false]
  have : (some c == some "carried".toList) = false := by simpa using hc
  rw [this]
  rfl
theorem make_cut {P : Program} {c : List Char} {rest : List (List Char)} (h : behindMainWord (wordsSigns P.initOrder.toList) = c :: rest)
    (h1 : (c == "gc".toList || c == "spec".toList) = false) (h2 : (c == "cut".toList) = true) : P.make = some .cut := by
  unfold Program.make
  rw [h]
  simp only [h1, h2, Bool.true_or, Bool.false_eq_true, if_false, if_true]
def headCodes : List Nat := [
  104, 97, 114, 110, 101, 115, 115, 32, 51, 102, 52, 100, 97, 51, 56, 49, 53, 101, 98, 97, 49, 97, 55, 99, 97, 51, 97, 53, 57, 98, 51, 57, 53, 55, 97, 97, 53, 56, 102, 57,
  54, 102, 100, 51, 48, 56, 99, 48, 99, 51, 57, 99, 54, 57, 56, 51, 57, 48, 54, 97, 99, 49, 97, 102, 48, 98, 102, 98, 49, 100, 49, 54, 32, 99, 117, 116, 32, 97, 116, 32,
  115, 116, 114, 97, 105, 103, 104, 116, 101, 100, 103, 101, 47, 115, 116, 114, 97, 105, 103, 104, 116, 101, 100, 103, 101, 108, 97, 119, 48, 54, 46, 65, 120, 101, 115, 67, 108, 111, 115, 101,
  32, 115, 116, 114, 97, 105, 103, 104, 116, 101, 100, 103, 101, 47, 115, 116, 114, 97, 105, 103, 104, 116, 101, 100, 103, 101, 108, 97, 119, 48, 53, 46, 83, 117, 109, 115, 76, 105, 115, 116,
  115, 32, 115, 116, 114, 97, 105, 103, 104, 116, 101, 100, 103, 101, 47, 115, 116, 114, 97, 105, 103, 104, 116, 101, 100, 103, 101, 108, 97, 119, 48, 52, 46, 77, 111, 118, 101, 82, 111, 119,
  115, 32, 115, 116, 114, 97, 105, 103, 104, 116, 101, 100, 103, 101, 47, 115, 116, 114, 97, 105, 103, 104, 116, 101, 100, 103, 101, 108, 97, 119, 48, 56, 46, 71, 101, 114, 84, 101, 108, 108,
  115, 32, 115, 116, 114, 97, 105, 103, 104, 116, 101, 100, 103, 101, 47, 115, 116, 114, 97, 105, 103, 104, 116, 101, 100, 103, 101, 108, 97, 119, 48, 52, 46, 77, 111, 118, 101, 86, 101, 99,
  116, 111, 114, 115, 32, 115, 116, 114, 97, 105, 103, 104, 116, 101, 100, 103, 101, 47, 115, 116, 114, 97, 105, 103, 104, 116, 101, 100, 103, 101, 108, 97, 119, 48, 55, 46, 71, 101, 109, 118,
  67, 108, 111, 115, 101, 32, 115, 116, 114, 97, 105, 103, 104, 116, 101, 100, 103, 101, 47, 115, 116, 114, 97, 105, 103, 104, 116, 101, 100, 103, 101, 108, 97, 119, 49, 49, 46, 71, 101, 109,
  109, 84, 101, 108, 108, 115, 32, 115, 116, 114, 97, 105, 103, 104, 116, 101, 100, 103, 101, 47, 115, 116, 114, 97, 105, 103, 104, 116, 101, 100, 103, 101, 108, 97, 119, 48, 57, 46, 84, 114,
  115, 118, 83, 111, 108, 118, 101, 115, 32, 115, 116, 114, 97, 105, 103, 104, 116, 101, 100, 103, 101, 47, 115, 116, 114, 97, 105, 103, 104, 116, 101, 100, 103, 101, 108, 97, 119, 48, 57, 46,
  84, 114, 115, 118, 66, 97, 99, 107, 119, 97, 114, 100, 32, 115, 116, 114, 97, 105, 103, 104, 116, 101, 100, 103, 101, 47, 115, 116, 114, 97, 105, 103, 104, 116, 101, 100, 103, 101, 108, 97,
  119, 48, 55, 46, 71, 101, 109, 118, 84, 117, 114, 110, 115, 32, 115, 116, 114, 97, 105, 103, 104, 116, 101, 100, 103, 101, 47, 115, 116, 114, 97, 105, 103, 104, 116, 101, 100, 103, 101, 108,
  97, 119, 48, 54, 46, 65, 120, 101, 115, 66, 97, 99, 107, 32, 115, 116, 114, 97, 105, 103, 104, 116, 101, 100, 103, 101, 47, 115, 116, 114, 97, 105, 103, 104, 116, 101, 100, 103, 101, 108,
  97, 119, 49, 49, 46, 71, 101, 109, 109, 87, 104, 111, 108, 101, 32, 115, 116, 114, 97, 105, 103, 104, 116, 101, 100, 103, 101, 47, 115, 116, 114, 97, 105, 103, 104, 116, 101, 100, 103, 101,
  108, 97, 119, 50, 50, 46, 82, 101, 115, 105, 100, 66, 111, 117, 110, 100, 115, 32, 115, 116, 114, 97, 105, 103, 104, 116, 101, 100, 103, 101, 47, 115, 116, 114, 97, 105, 103, 104, 116, 101,
  100, 103, 101, 108, 97, 119, 50, 50, 46, 82, 101, 115, 105, 100, 82, 101, 115, 116, 32, 115, 116, 114, 97, 105, 103, 104, 116, 101, 100, 103, 101, 47, 115, 116, 114, 97, 105, 103, 104, 116,
  101, 100, 103, 101, 108, 97, 119, 48, 54, 46, 65, 120, 101, 115, 83, 99, 97, 108, 101, 32, 115, 116, 114, 97, 105, 103, 104, 116, 101, 100, 103, 101, 47, 115, 116, 114, 97, 105, 103, 104,
  116, 101, 100, 103, 101, 108, 97, 119, 49, 53, 46, 69, 113, 117, 105, 108, 70, 97, 99, 116, 111, 114, 115, 32, 115, 116, 114, 97, 105, 103, 104, 116, 101, 100, 103, 101, 47, 115, 116, 114,
  97, 105, 103, 104, 116, 101, 100, 103, 101, 108, 97, 119, 50, 50, 46, 82, 101, 115, 105, 100, 84, 101, 108, 108, 115, 32, 115, 116, 114, 97, 105, 103, 104, 116, 101, 100, 103, 101, 47, 115,
  116, 114, 97, 105, 103, 104, 116, 101, 100, 103, 101, 108, 97, 119, 50, 50, 46, 82, 101, 115, 105, 100, 66, 97, 99, 107, 119, 97, 114, 100, 32, 115, 116, 114, 97, 105, 103, 104, 116, 101,
  100, 103, 101, 47, 115, 116, 114, 97, 105, 103, 104, 116, 101, 100, 103, 101, 108, 97, 119, 49, 53, 46, 69, 113, 117, 105, 108, 76, 105, 107, 101, 32, 115, 116, 114, 97, 105, 103, 104, 116,
  101, 100, 103, 101, 47, 115, 116, 114, 97, 105, 103, 104, 116, 101, 100, 103, 101, 108, 97, 119, 49, 53, 46, 69, 113, 117, 105, 108, 83, 99, 97, 108, 101, 115, 32, 115, 116, 114, 97, 105,
  103, 104, 116, 101, 100, 103, 101, 47, 115, 116, 114, 97, 105, 103, 104, 116, 101, 100, 103, 101, 108, 97, 119, 50, 48, 46, 76, 97, 99, 110, 66, 101, 108, 111, 119]
def headWords : List (List Nat) := [
  [104, 97, 114, 110, 101, 115, 115],
  [51, 102, 52, 100, 97, 51, 56, 49, 53, 101, 98, 97, 49, 97, 55, 99, 97, 51, 97, 53, 57, 98, 51, 57, 53, 55, 97, 97, 53, 56, 102, 57, 54, 102, 100, 51, 48, 56, 99, 48, 99, 51, 57, 99, 54, 57, 56, 51, 57, 48, 54, 97, 99, 49, 97, 102, 48, 98, 102, 98, 49, 100, 49, 54],
  [99, 117, 116],
  [97, 116],
  [115, 116, 114, 97, 105, 103, 104, 116, 101, 100, 103, 101, 47, 115, 116, 114, 97, 105, 103, 104, 116, 101, 100, 103, 101, 108, 97, 119, 48, 54, 46, 65, 120, 101, 115, 67, 108, 111, 115, 101],
  [115, 116, 114, 97, 105, 103, 104, 116, 101, 100, 103, 101, 47, 115, 116, 114, 97, 105, 103, 104, 116, 101, 100, 103, 101, 108, 97, 119, 48, 53, 46, 83, 117, 109, 115, 76, 105, 115, 116, 115],
  [115, 116, 114, 97, 105, 103, 104, 116, 101, 100, 103, 101, 47, 115, 116, 114, 97, 105, 103, 104, 116, 101, 100, 103, 101, 108, 97, 119, 48, 52, 46, 77, 111, 118, 101, 82, 111, 119, 115],
  [115, 116, 114, 97, 105, 103, 104, 116, 101, 100, 103, 101, 47, 115, 116, 114, 97, 105, 103, 104, 116, 101, 100, 103, 101, 108, 97, 119, 48, 56, 46, 71, 101, 114, 84, 101, 108, 108, 115],
  [115, 116, 114, 97, 105, 103, 104, 116, 101, 100, 103, 101, 47, 115, 116, 114, 97, 105, 103, 104, 116, 101, 100, 103, 101, 108, 97, 119, 48, 52, 46, 77, 111, 118, 101, 86, 101, 99, 116, 111, 114, 115],
  [115, 116, 114, 97, 105, 103, 104, 116, 101, 100, 103, 101, 47, 115, 116, 114, 97, 105, 103, 104, 116, 101, 100, 103, 101, 108, 97, 119, 48, 55, 46, 71, 101, 109, 118, 67, 108, 111, 115, 101],
  [115, 116, 114, 97, 105, 103, 104, 116, 101, 100, 103, 101, 47, 115, 116, 114, 97, 105, 103, 104, 116, 101, 100, 103, 101, 108, 97, 119, 49, 49, 46, 71, 101, 109, 109, 84, 101, 108, 108, 115],
  [115, 116, 114, 97, 105, 103, 104, 116, 101, 100, 103, 101, 47, 115, 116, 114, 97, 105, 103, 104, 116, 101, 100, 103, 101, 108, 97, 119, 48, 57, 46, 84, 114, 115, 118, 83, 111, 108, 118, 101, 115],
  [115, 116, 114, 97, 105, 103, 104, 116, 101, 100, 103, 101, 47, 115, 116, 114, 97, 105, 103, 104, 116, 101, 100, 103, 101, 108, 97, 119, 48, 57, 46, 84, 114, 115, 118, 66, 97, 99, 107, 119, 97, 114, 100],
  [115, 116, 114, 97, 105, 103, 104, 116, 101, 100, 103, 101, 47, 115, 116, 114, 97, 105, 103, 104, 116, 101, 100, 103, 101, 108, 97, 119, 48, 55, 46, 71, 101, 109, 118, 84, 117, 114, 110, 115],
  [115, 116, 114, 97, 105, 103, 104, 116, 101, 100, 103, 101, 47, 115, 116, 114, 97, 105, 103, 104, 116, 101, 100, 103, 101, 108, 97, 119, 48, 54, 46, 65, 120, 101, 115, 66, 97, 99, 107],
  [115, 116, 114, 97, 105, 103, 104, 116, 101, 100, 103, 101, 47, 115, 116, 114, 97, 105, 103, 104, 116, 101, 100, 103, 101, 108, 97, 119, 49, 49, 46, 71, 101, 109, 109, 87, 104, 111, 108, 101],
  [115, 116, 114, 97, 105, 103, 104, 116, 101, 100, 103, 101, 47, 115, 116, 114, 97, 105, 103, 104, 116, 101, 100, 103, 101, 108, 97, 119, 50, 50, 46, 82, 101, 115, 105, 100, 66, 111, 117, 110, 100, 115],
  [115, 116, 114, 97, 105, 103, 104, 116, 101, 100, 103, 101, 47, 115, 116, 114, 97, 105, 103, 104, 116, 101, 100, 103, 101, 108, 97, 119, 50, 50, 46, 82, 101, 115, 105, 100, 82, 101, 115, 116],
  [115, 116, 114, 97, 105, 103, 104, 116, 101, 100, 103, 101, 47, 115, 116, 114, 97, 105, 103, 104, 116, 101, 100, 103, 101, 108, 97, 119, 48, 54, 46, 65, 120, 101, 115, 83, 99, 97, 108, 101],
  [115, 116, 114, 97, 105, 103, 104, 116, 101, 100, 103, 101, 47, 115, 116, 114, 97, 105, 103, 104, 116, 101, 100, 103, 101, 108, 97, 119, 49, 53, 46, 69, 113, 117, 105, 108, 70, 97, 99, 116, 111, 114, 115],
  [115, 116, 114, 97, 105, 103, 104, 116, 101, 100, 103, 101, 47, 115, 116, 114, 97, 105, 103, 104, 116, 101, 100, 103, 101, 108, 97, 119, 50, 50, 46, 82, 101, 115, 105, 100, 84, 101, 108, 108, 115],
  [115, 116, 114, 97, 105, 103, 104, 116, 101, 100, 103, 101, 47, 115, 116, 114, 97, 105, 103, 104, 116, 101, 100, 103, 101, 108, 97, 119, 50, 50, 46, 82, 101, 115, 105, 100, 66, 97, 99, 107, 119, 97, 114, 100],
  [115, 116, 114, 97, 105, 103, 104, 116, 101, 100, 103, 101, 47, 115, 116, 114, 97, 105, 103, 104, 116, 101, 100, 103, 101, 108, 97, 119, 49, 53, 46, 69, 113, 117, 105, 108, 76, 105, 107, 101],
  [115, 116, 114, 97, 105, 103, 104, 116, 101, 100, 103, 101, 47, 115, 116, 114, 97, 105, 103, 104, 116, 101, 100, 103, 101, 108, 97, 119, 49, 53, 46, 69, 113, 117, 105, 108, 83, 99, 97, 108, 101, 115],
  [115, 116, 114, 97, 105, 103, 104, 116, 101, 100, 103, 101, 47, 115, 116, 114, 97, 105, 103, 104, 116, 101, 100, 103, 101, 108, 97, 119, 50, 48, 46, 76, 97, 99, 110, 66, 101, 108, 111, 119]]
def W : List (List Char) := headWords.map (·.map Char.ofNat)
theorem head_eq : Try.prog.initOrder = String.ofList (headCodes.map Char.ofNat) := by kernel_rfl
theorem head_list : Try.prog.initOrder.toList = headCodes.map Char.ofNat := by rw [head_eq, String.toList_ofList]
theorem head_words : wordsSigns (headCodes.map Char.ofNat) = W := by kernel_rfl
def cutWord : List Char := W.getD 2 []
def restWords : List (List Char) := W.drop 3
theorem head_split : behindMainWord W = cutWord :: restWords := by kernel_rfl
theorem head_behind : behindMainWord (wordsSigns Try.prog.initOrder.toList) = cutWord :: restWords := by rw [head_list, head_words]; exact head_split
theorem head_strip : stripLifts liftWords (cutWord :: restWords) = ([], cutWord :: restWords) := by kernel_rfl
theorem head_final : Try.prog.liftsFinal = false := final_cut head_behind head_strip (by kernel_rfl)
theorem head_make : Try.prog.make = some .cut := make_cut head_behind (by kernel_rfl) (by kernel_rfl)
theorem head_may : Try.prog.mayEnter = true := may_cut head_behind head_strip (by kernel_rfl) (by kernel_rfl) (by kernel_rfl) (by kernel_rfl)
end Go.Proofs.Ytcmggfpcbijcjaa
end
