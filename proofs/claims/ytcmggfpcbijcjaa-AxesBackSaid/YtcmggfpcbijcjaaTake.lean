/-
  Contract: move.Take (layer 4).
-/
import Derived.Test.YtcmggfpcbijcjaaMove4
set_option linter.unusedSimpArgs false
set_option linter.unusedVariables false
open Go Go.RowKit Sedge
namespace Go.Proofs.Ytcmggfpcbijcjaa
/-- The matrix over another list. -/
def withL (m : MatM) (l : List Nat) : MatM := ⟨l, m.off, m.rows, m.cols, m.ld⟩
theorem withL_good {m : MatM} {l : List Nat} (h : l.length = m.ws.length) : (withL m l).good = m.good := by unfold withL MatM.good; simp only [h]
@[simp] theorem rowsL_length (m : MatM) (i k : Int) : (rowsL m i k).length = m.ws.length := by unfold rowsL; split <;> simp
def mtakeTo (m : MatM) (zs : List Int) : Nat → List Nat
  | 0 => m.ws
  | k + 1 => rowsL (withL m (mtakeTo m zs k)) k (zs.getD k 0)
@[simp] theorem mtakeTo_length (m : MatM) (zs : List Int) : ∀ k, (mtakeTo m zs k).length = m.ws.length
  | 0 => rfl
  | k + 1 => by unfold mtakeTo; rw [rowsL_length]; exact mtakeTo_length m zs k
def mtakeE (m : MatM) (zs : List Int) : Int := if m.good = true then takeE m.rows zs else 1
def mtakeL (m : MatM) (zs : List Int) : List Nat := if mtakeE m zs = 0 then mtakeTo m zs zs.length else m.ws
set_option maxRecDepth 100000 in
set_option maxHeartbeats 2000000 in
theorem take_any (x : MatM) (g cap : Nat) (O : Value) (zs : List Int) (w : World) (hF : FW w g x.ws) (hO : IS .i64 w O zs) (hng : ∀ a l c, 0 < zs.length → O = .slice (some a) l c → a.block < g) (hwf : x.wf) (hl : x.ws.length ≤ 1000000) :
   Calls Try.prog 45 #[.agg #[.slice (some ⟨g, 0, none⟩) x.ws.length cap, .int .i64 x.off, .int .i64 x.rows, .int .i64 x.cols, .int .i64 x.ld], O] w
     (fun e w' => e = .returned (.int .i64 (mtakeE x zs)) ∧ Wrote w w' g (mtakeL x zs)) := by
  have hD := hF.fs (by omega) cap
  have hltg := hF.lt
  obtain ⟨aO, capO, rfl⟩ := hO.shape
  have hlO := hO.len
  have hr0 := hwf.2.1
  unfold I64 at hr0
  have Hw := hid hwf
  clear hwf
  cases hgd : x.good
  · have k1 : (!x.good) = true := by simp [hgd]
    have q := hid (show mtakeE x zs = 1 by unfold mtakeE; rw [hgd]; rfl)
    have q2 := hid (show mtakeL x zs = x.ws by unfold mtakeL; rw [q.out]; rfl)
    clear hgd
    go_enter Try.func45, Try.ntmps45
    refine seq_stop ?_
    go_wp2
    refine stop_go (fun W hW => ?_)
    have s1 : w.heap.size < W.heap.size := by rw [hW]; simp only [World.size_alloc]; omega
    have b1 : ∀ i, W.cell? ⟨w.heap.size, i, none⟩ = (#[.slice (some ⟨g, 0, none⟩) x.ws.length cap, .int .i64 x.off, .int .i64 x.rows, .int .i64 x.cols, .int .i64 x.ld] : Array Value)[i]? := by intro i; rw [hW]; go_simp
    have g0 : Grew w W := by rw [hW]; exact (Grew.refl _).alloc _
    clear hW
    have hDW := hD.grew g0
    go_wp2_with (first | (go_at_call 130; ((with_reducible refine (good_any x _ _ ?_ Hw.out).mono ?_); (focus (first | assumption | (refine FS.ext ?_ _ _; assumption) | (refine IS.ext ?_ _ _; assumption) | (refine hDu _ ?_; assumption) | (refine hOu _ ?_; assumption) | (refine FW.fs ?_ (by omega) _; assumption) | (refine WS.fs ?_; assumption) | omega)); rintro e w1 ⟨rfl, o1, n1, rfl⟩)))
    go_ret
    exact ⟨by rw [q.out]; rfl, by rw [q2.out]; exact Wrote.grew_r (Wrote.refl hF) (by (show Grew _ _; repeat (first | (with_reducible exact Grew.refl _) | (with_reducible assumption) | (with_reducible refine Grew.ext ?_ _ _) | (with_reducible refine Grew.alloc ?_ _) | ((with_reducible refine Grew.setCell ?_ ?_ _); rotate_left; (focus (dsimp only; first | omega | (simp only [size_ext, World.size_alloc, Array.size_append]; omega)))) | (with_reducible refine Grew.drewN ?_ _) | (with_reducible refine Grew.drew ?_))))⟩
  have k1 : (!x.good) = false := by simp [hgd]
  have hE := hid (show mtakeE x zs = takeE x.rows zs by unfold mtakeE; rw [hgd]; rfl)
  have Hgd := hid hgd
  clear hgd
  by_cases c1 : x.rows < zs.length
  · have d1 : decide (x.rows < (zs.length : Int)) = true := by simpa using c1
    have q := hid (show mtakeE x zs = 3 by rw [hE.out]; unfold takeE; rw [if_pos c1])
    have q2 := hid (show mtakeL x zs = x.ws by unfold mtakeL; rw [q.out]; rfl)
    go_enter Try.func45, Try.ntmps45
    refine seq_stop ?_
    go_wp2
    refine stop_go (fun W hW => ?_)
    have s1 : w.heap.size < W.heap.size := by rw [hW]; simp only [World.size_alloc]; omega
    have b1 : ∀ i, W.cell? ⟨w.heap.size, i, none⟩ = (#[.slice (some ⟨g, 0, none⟩) x.ws.length cap, .int .i64 x.off, .int .i64 x.rows, .int .i64 x.cols, .int .i64 x.ld] : Array Value)[i]? := by intro i; rw [hW]; go_simp
    have g0 : Grew w W := by rw [hW]; exact (Grew.refl _).alloc _
    clear hW
    have hDW := hD.grew g0
    go_wp2_with (first | (go_at_call 130; ((with_reducible refine (good_any x _ _ ?_ Hw.out).mono ?_); (focus (first | assumption | (refine FS.ext ?_ _ _; assumption) | (refine IS.ext ?_ _ _; assumption) | (refine hDu _ ?_; assumption) | (refine hOu _ ?_; assumption) | (refine FW.fs ?_ (by omega) _; assumption) | (refine WS.fs ?_; assumption) | omega)); rintro e w1 ⟨rfl, o1, n1, rfl⟩)))
    go_ret
    exact ⟨by rw [q.out]; rfl, by rw [q2.out]; exact Wrote.grew_r (Wrote.refl hF) (by (show Grew _ _; repeat (first | (with_reducible exact Grew.refl _) | (with_reducible assumption) | (with_reducible refine Grew.ext ?_ _ _) | (with_reducible refine Grew.alloc ?_ _) | ((with_reducible refine Grew.setCell ?_ ?_ _); rotate_left; (focus (dsimp only; first | omega | (simp only [size_ext, World.size_alloc, Array.size_append]; omega)))) | (with_reducible refine Grew.drewN ?_ _) | (with_reducible refine Grew.drew ?_))))⟩
  have d1 : decide (x.rows < (zs.length : Int)) = false := by simpa using c1
  have HO := hid hO
  clear hO
  go_enter Try.func45, Try.ntmps45
  refine seq_stop ?_
  go_wp2
  refine stop_go (fun W hW => ?_)
  have s1 : w.heap.size < W.heap.size := by rw [hW]; simp only [World.size_alloc]; omega
  have b1 : ∀ i, W.cell? ⟨w.heap.size, i, none⟩ = (#[.slice (some ⟨g, 0, none⟩) x.ws.length cap, .int .i64 x.off, .int .i64 x.rows, .int .i64 x.cols, .int .i64 x.ld] : Array Value)[i]? := by intro i; rw [hW]; go_simp
  have g0 : Grew w W := by rw [hW]; exact (Grew.refl _).alloc _
  clear hW
  have hDW := hD.grew g0
  have HOW := hid (HO.out.grew g0)
  have hFW := hF.grew g0
  have gl := hFW.lt
  have q1 : w.heap.size ≠ g := by omega
  go_wp2_with (first | (go_at_call 130; ((with_reducible refine (good_any x _ _ ?_ Hw.out).mono ?_); (focus (first | assumption | (refine FS.ext ?_ _ _; assumption) | (refine IS.ext ?_ _ _; assumption) | (refine hDu _ ?_; assumption) | (refine hOu _ ?_; assumption) | (refine FW.fs ?_ (by omega) _; assumption) | (refine WS.fs ?_; assumption) | omega)); rintro e w1 ⟨rfl, o1, n1, rfl⟩)))
  go_loopw [21] (fun c wr => ∃ (i : Nat) (o : Array Obj) (n : Nat), i ≤ zs.length ∧ c = .int .i64 i ∧ wr = ext W o n ∧ ordTo x.rows zs i = true) (fun c _ => zs.length - (intOf c).toNat)
  case atStart => exact ⟨0, _, _, Nat.zero_le _, rfl, rfl, rfl⟩
  case round =>
    obtain ⟨i, o2, n2, hi, rfl, hwr, hord⟩ := hrel
    subst hwr
    have Hord := hid hord
    clear hord
    by_cases hlt : i < zs.length
    · obtain ⟨blk, o, rfl, hblk, hc⟩ := HOW.out.at.2 (by omega)
      have hb := hc i hlt
      obtain ⟨z, hz⟩ : ∃ z, z = zs.getD i 0 := ⟨_, rfl⟩
      rw [← hz] at hb
      have hstep : ordTo x.rows zs (i + 1) = (decide ((i : Int) ≤ z) && decide (z < x.rows)) := by rw [ordTo, Hord.out, ← hz]; simp
      have Hst := hid hstep
      have Hz := hid hz
      clear hc hstep hz
      by_cases e1 : z < (i : Int)
      · have d2 : decide (z < (i : Int)) = true := by simpa using e1
        have q0 := ordTo_false (n := i + 1) (by rw [Hst.out]; simp; omega) zs.length (by omega)
        have q := hid (show mtakeE x zs = 1 by rw [hE.out]; exact takeE_1 (by omega) q0)
        have q2 := hid (show mtakeL x zs = x.ws by unfold mtakeL; rw [q.out]; rfl)
        clear q0
        go_wp2
        go_ret
        exact ⟨by rw [q.out]; rfl, by rw [q2.out]; exact Wrote.grew_r (Wrote.refl hF) (by (show Grew _ _; repeat (first | (with_reducible exact Grew.refl _) | (with_reducible assumption) | (with_reducible refine Grew.ext ?_ _ _) | (with_reducible refine Grew.alloc ?_ _) | ((with_reducible refine Grew.setCell ?_ ?_ _); rotate_left; (focus (dsimp only; first | omega | (simp only [size_ext, World.size_alloc, Array.size_append]; omega)))) | (with_reducible refine Grew.drewN ?_ _) | (with_reducible refine Grew.drew ?_))))⟩
      · have d2 : decide (z < (i : Int)) = false := by simpa using e1
        by_cases e2 : x.rows ≤ z
        · have d3 : decide (x.rows ≤ z) = true := by simpa using e2
          have q0 := ordTo_false (n := i + 1) (by rw [Hst.out]; simp; omega) zs.length (by omega)
          have q := hid (show mtakeE x zs = 1 by rw [hE.out]; exact takeE_1 (by omega) q0)
          have q2 := hid (show mtakeL x zs = x.ws by unfold mtakeL; rw [q.out]; rfl)
          clear q0
          go_wp2
          go_ret
          exact ⟨by rw [q.out]; rfl, by rw [q2.out]; exact Wrote.grew_r (Wrote.refl hF) (by (show Grew _ _; repeat (first | (with_reducible exact Grew.refl _) | (with_reducible assumption) | (with_reducible refine Grew.ext ?_ _ _) | (with_reducible refine Grew.alloc ?_ _) | ((with_reducible refine Grew.setCell ?_ ?_ _); rotate_left; (focus (dsimp only; first | omega | (simp only [size_ext, World.size_alloc, Array.size_append]; omega)))) | (with_reducible refine Grew.drewN ?_ _) | (with_reducible refine Grew.drew ?_))))⟩
        · have d3 : decide (x.rows ≤ z) = false := by simpa using e2
          go_wp2
          go_roundw
          case rel => exact ⟨i + 1, _, _, by omega, by go_num, rfl, by rw [Hst.out]; simp; omega⟩
          case measure => simp [intOf]; omega
    · have e : i = zs.length := by omega
      subst e
      have q := hid (show mtakeE x zs = 0 by rw [hE.out]; unfold takeE; rw [if_neg (by omega), if_pos Hord.out])
      have q2 := hid (show mtakeL x zs = mtakeTo x zs zs.length by unfold mtakeL; rw [if_pos q.out])
      go_wp2
      go_loopw [38] (fun c wr => ∃ (i : Nat) (cs : Array Value) (o : Array Obj) (n : Nat), i ≤ zs.length ∧ c = .int .i64 i ∧ wr = ext (upd W g cs) o n ∧ CF cs (mtakeTo x zs i)) (fun c _ => zs.length - (intOf c).toNat)
      case atStart =>
        obtain ⟨cs, h1, h2⟩ := hFW.self
        exact ⟨0, cs, o2, n2, Nat.zero_le _, rfl, by rw [h1], h2⟩
      case round =>
        obtain ⟨i, cs, o3, n3, hi, rfl, hwr, hcs⟩ := hrel
        subst hwr
        by_cases hlt : i < zs.length
        · obtain ⟨blk, o, rfl, hblk, hc⟩ := HOW.out.at.2 (by omega)
          have hb := hc i hlt
          have hz := ordTo_at Hord.out i hlt
          obtain ⟨z, hz2⟩ : ∃ z, z = zs.getD i 0 := ⟨_, rfl⟩
          have hl2 : (mtakeTo x zs i).length = x.ws.length := by simp
          rw [← hz2] at hb hz
          have Hz := hid hz2
          have qb : blk ≠ g := Nat.ne_of_lt (hng _ _ _ (by omega) rfl)
          have hrows : ∀ o n, Calls Try.prog 44 #[.agg #[.slice (some ⟨g, 0, none⟩) x.ws.length cap, .int .i64 x.off, .int .i64 x.rows, .int .i64 x.cols, .int .i64 x.ld], .int .i64 i, .int .i64 z] (ext (upd W g cs) o n)
             (fun e w' => e = .returned (.int .i64 (rowsE (withL x (mtakeTo x zs i)) i z)) ∧ Wrote (ext (upd W g cs) o n) w' g (mtakeTo x zs (i + 1))) := fun o n => by
            have h := rows_any (withL x (mtakeTo x zs i)) g cap i z _ (hFW.mk' hcs o n) Hw.out (by unfold withL; simp only [hl2]; omega) (by unfold I64; omega) (by unfold I64; omega)
            have e : (withL x (mtakeTo x zs i)).ws.length = x.ws.length := hl2
            rw [e] at h
            rw [mtakeTo, ← Hz.out]
            exact h
          clear hc hz2
          go_wp2_with (first
            | (go_at_call 44; ((with_reducible refine (hrows _ _).mono ?_); rintro e w1 ⟨rfl, hw⟩; obtain ⟨cs2, o4, n4, rfl, hcs2⟩ := Wrote.trans ⟨cs, _, _, rfl, hcs⟩ gl hw)))
          go_roundw
          case rel => exact ⟨i + 1, cs2, _, _, by omega, by go_num, rfl, hcs2⟩
          case measure => simp [intOf]; omega
        · have e : i = zs.length := by omega
          subst e
          go_wp2
          go_ret
          exact ⟨by rw [q.out]; rfl, by rw [q2.out]; exact Wrote.grew_l g0 (by omega) ⟨cs, _, _, rfl, hcs⟩⟩
end Go.Proofs.Ytcmggfpcbijcjaa
