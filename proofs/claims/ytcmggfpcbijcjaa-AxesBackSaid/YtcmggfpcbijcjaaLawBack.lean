/-
  The walk of the law AxesBack (layer 6).
-/
import Derived.Test.YtcmggfpcbijcjaaAw06
import Derived.Test.YtcmggfpcbijcjaaBack
import Derived.Test.YtcmggfpcbijcjaaOwnI
set_option linter.unusedSimpArgs false
set_option linter.unusedVariables false
open Go Go.RowKit Sedge
namespace Go.Proofs.Ytcmggfpcbijcjaa
theorem _root_.Sedge.ApartV.symm {u v : Value} (h : ApartV u v) : ApartV v u := fun k h1 h2 => h k h2 h1
theorem iinfo : (Try.prog.info? 3).map (fun i => (i.zero, i.size, i.bytes)) = some (some (Value.int .i64 0), 1, 8) := by kernel_rfl
theorem iund : Try.prog.underlying 30 = some (.slice 3) := by kernel_rfl
theorem _root_.Sedge.OwnI.but {w w' : World} {G : List Nat} {B : Nat} {v : Value} {zs : List Int} (h : OwnI w B v zs) (hb : But w G w') (hne : ∀ k, v.ownBlock = some k → k ∉ G) : OwnI w' B v zs := by
  have hlt := World.ownsRow.lt h
  obtain ⟨h0, h1⟩ := h
  refine ⟨h0, ?_⟩
  rcases h1 with h1 | ⟨gg, cap, cur, rfl, hB, hh, r⟩
  · exact .inl h1
  · exact .inr ⟨gg, cap, cur, rfl, hB, by rw [hb.block gg (hlt gg rfl).2 (hne gg rfl)]; exact hh, r⟩
theorem axL_get {x : VecM} (F : Nat → Nat → Nat) (hx : x.right = true) {i : Nat} (hi : (i : Int) < x.n) : (axL F x).getD (x.place i) 0 = F i (x.num i) := by
  unfold axL VecMwrite VecMwriteTo
  rw [show min x.n.toNat ((List.range x.n.toNat).map fun i => F i (x.num i)).length = x.n.toNat by simp]
  rw [writes_at x.n.toNat (fun a b ha hb e => VecM.place_inj hx (by omega) (by omega) e) (fun a ha => VecM.place_lt hx (by omega)) i (by omega)]
  rw [List.getD_eq_getElem?_getD, List.getElem?_map, List.getElem?_range (by omega)]; rfl
theorem axL_length (F : Nat → Nat → Nat) (x : VecM) : (axL F x).length = x.ws.length := by simp [axL, VecMwrite, VecMwriteTo]
def vec1 (l : List Nat) : VecM := ⟨l, 0, l.length, 1⟩
theorem vec1_place (l : List Nat) (i : Nat) : (vec1 l).place i = i := by simp [vec1, VecM.place]
theorem vec1_num (l : List Nat) (i : Nat) : (vec1 l).num i = l.getD i 0 := by simp [vec1, VecM.num, VecM.place]
theorem vec1_right (l : List Nat) : (vec1 l).right = true := by
  unfold VecM.right fitsB vec1
  simp
  omega
def upTo (ks : List Int) (i : Nat) : List Int := (List.range i).map fun j => ks.getD j 0
def downTo (ks : List Int) (i : Nat) : List Int := (List.range i).map fun j => -ks.getD j 0
theorem upTo_succ (ks : List Int) (i : Nat) : upTo ks (i + 1) = upTo ks i ++ [ks.getD i 0] := by unfold upTo; rw [List.range_succ, List.map_append]; rfl
theorem downTo_succ (ks : List Int) (i : Nat) : downTo ks (i + 1) = downTo ks i ++ [-ks.getD i 0] := by unfold downTo; rw [List.range_succ, List.map_append]; rfl
theorem upTo_length (ks : List Int) (i : Nat) : (upTo ks i).length = i := by simp [upTo]
theorem downTo_length (ks : List Int) (i : Nat) : (downTo ks i).length = i := by simp [downTo]
theorem upTo_get (ks : List Int) {i n : Nat} (h : i < n) : (upTo ks n).getD i 0 = ks.getD i 0 := by
  unfold upTo
  rw [List.getD_eq_getElem?_getD, List.getElem?_map, List.getElem?_range h]; rfl
theorem downTo_get (ks : List Int) {i n : Nat} (h : i < n) : (downTo ks n).getD i 0 = -ks.getD i 0 := by
  unfold downTo
  rw [List.getD_eq_getElem?_getD, List.getElem?_map, List.getElem?_range h]; rfl
def upL (l : List Nat) (ks : List Int) : List Nat := axL (fun i z => fscale z ((upTo ks l.length).getD i 0)) (vec1 l)
def backL (l : List Nat) (ks : List Int) : List Nat := axL (fun i z => fscale z ((downTo ks l.length).getD i 0)) (vec1 (upL l ks))
theorem upL_length (l : List Nat) (ks : List Int) : (upL l ks).length = l.length := axL_length _ _
theorem backL_length (l : List Nat) (ks : List Int) : (backL l ks).length = l.length := (axL_length _ _).trans (upL_length l ks)
theorem upL_get (l : List Nat) (ks : List Int) {i : Nat} (h : i < l.length) : (upL l ks).getD i 0 = fscale (l.getD i 0) (ks.getD i 0) := by
  have := axL_get (x := vec1 l) (fun i z => fscale z ((upTo ks l.length).getD i 0)) (vec1_right l) (i := i) (by show (i : Int) < l.length; omega)
  rw [vec1_place, vec1_num, upTo_get ks h] at this
  exact this
theorem backL_get (l : List Nat) (ks : List Int) {i : Nat} (h : i < l.length) : (backL l ks).getD i 0 = fscale ((upL l ks).getD i 0) (-ks.getD i 0) := by
  have := axL_get (x := vec1 (upL l ks)) (fun i z => fscale z ((downTo ks l.length).getD i 0)) (vec1_right _) (i := i) (by show (i : Int) < (upL l ks).length; rw [upL_length]; omega)
  rw [vec1_place, vec1_num, downTo_get ks h] at this
  exact this
theorem back_law (l : List Nat) (ks : List Int) (hl : ∀ i, i < l.length → IsF (l.getD i 0) (l.getD i 0)) (hk : ∀ i, i < l.length → 0 ≤ ks.getD i 0 ∧ ks.getD i 0 ≤ 255) (hf : finL (upL l ks) = true) : backL l ks = l := by
  apply List.ext_getElem?
  intro i
  by_cases h : i < l.length
  · have e : (backL l ks).getD i 0 = l.getD i 0 := by
      rw [backL_get l ks h]
      rw [upL_get l ks h]
      refine fscale_back (hl i h) (hk i h).1 (hk i h).2 ?_
      rw [← upL_get l ks h]
      unfold finL at hf
      rw [List.all_eq_true] at hf
      refine hf _ ?_
      rw [List.getD_eq_getElem?_getD, List.getElem?_eq_getElem (by rw [upL_length]; exact h)]
      exact List.getElem_mem _
    rw [List.getD_eq_getElem?_getD, List.getD_eq_getElem?_getD, List.getElem?_eq_getElem (by rw [backL_length]; exact h), List.getElem?_eq_getElem h] at e
    rw [List.getElem?_eq_getElem (by rw [backL_length]; exact h), List.getElem?_eq_getElem h]
    simpa using e
  · rw [List.getElem?_eq_none (by rw [backL_length]; omega), List.getElem?_eq_none (by omega)]
end Go.Proofs.Ytcmggfpcbijcjaa
