/-
  Plain: lists that hold a grid of numbers; rows that change places, in a matrix and in a table.
-/
import Derived.Test.YtcmggfpcbijcjaaTake
set_option linter.unusedSimpArgs false
set_option linter.unusedVariables false
open Go Go.RowKit
namespace Sedge
open Go.Proofs.Ytcmggfpcbijcjaa (swaps)
/-- Places of a grid: each its own, all within n. -/
structure Places (p : Nat → Nat → Nat) (R C n : Nat) : Prop where
  lt : ∀ i j, i < R → j < C → p i j < n
  inj : ∀ i j i' j', i < R → j < C → i' < R → j' < C → p i j = p i' j' → i = i' ∧ j = j'
/-- l is l0, but at the grid's places it holds f. -/
structure Hold (p : Nat → Nat → Nat) (R C : Nat) (l0 l : List Nat) (f : Nat → Nat → Nat) : Prop where
  len : l.length = l0.length
  get : ∀ i j, i < R → j < C → l.getD (p i j) 0 = f i j
  rest : ∀ q, (∀ i j, i < R → j < C → p i j ≠ q) → l.getD q 0 = l0.getD q 0
section
variable {p : Nat → Nat → Nat} {R C : Nat} {l0 l l' : List Nat} {f g : Nat → Nat → Nat}
theorem Hold.unique (h : Hold p R C l0 l f) (h' : Hold p R C l0 l' g) (hfg : ∀ i j, i < R → j < C → f i j = g i j) : l = l' := by
  have hl : l.length = l'.length := h.len.trans h'.len.symm
  apply List.ext_getElem hl
  intro q h1 h2
  have e : l.getD q 0 = l'.getD q 0 := by
    by_cases hq : ∃ i j, i < R ∧ j < C ∧ p i j = q
    · obtain ⟨i, j, hi, hj, rfl⟩ := hq
      rw [h.get i j hi hj, h'.get i j hi hj, hfg i j hi hj]
    · have : ∀ i j, i < R → j < C → p i j ≠ q := fun i j hi hj he => hq ⟨i, j, hi, hj, he⟩
      rw [h.rest q this, h'.rest q this]
  simpa [List.getD_eq_getElem?_getD, h1, h2] using e
theorem getD_set_eq {l : List Nat} {k x : Nat} (h : k < l.length) : (l.set k x).getD k 0 = x := by
  simp [List.getD_eq_getElem?_getD, h]
theorem getD_set_ne' {l : List Nat} {k q x : Nat} (h : k ≠ q) : (l.set k x).getD q 0 = l.getD q 0 := by
  rw [List.getD_eq_getElem?_getD, List.getElem?_set_ne h, ← List.getD_eq_getElem?_getD]
theorem Hold.set (hp : Places p R C l0.length) (h : Hold p R C l0 l f) {i j x : Nat} (hi : i < R) (hj : j < C) :
    Hold p R C l0 (l.set (p i j) x) (fun r c => if r = i ∧ c = j then x else f r c) := by
  refine ⟨by rw [List.length_set, h.len], fun r c hr hc => ?_, fun q hq => ?_⟩
  · by_cases he : r = i ∧ c = j
    · obtain ⟨rfl, rfl⟩ := he
      rw [getD_set_eq (by rw [h.len]; exact hp.lt _ _ hr hc)]; simp
    · rw [getD_set_ne' (fun e => he ((hp.inj _ _ _ _ hi hj hr hc e).imp Eq.symm Eq.symm)), if_neg he]; exact h.get r c hr hc
  · rw [getD_set_ne' (hq i j hi hj)]; exact h.rest q hq
theorem Hold.congr (h : Hold p R C l0 l f) (hfg : ∀ i j, i < R → j < C → f i j = g i j) : Hold p R C l0 l g :=
  ⟨h.len, fun i j hi hj => (h.get i j hi hj).trans (hfg i j hi hj), h.rest⟩
def swapF (f : Nat → Nat → Nat) (i k j : Nat) (r c : Nat) : Nat := if c < j then (if r = i then f k c else if r = k then f i c else f r c) else f r c
theorem writes_hold (hp : Places p R C l0.length) (t : Nat → Nat) : ∀ k, k ≤ R * C → ∃ f, Hold p R C l0 (writes l0 (fun s => p (s / C) (s % C)) t k) f ∧
    ∀ i j, i < R → j < C → f i j = if i * C + j < k then t (i * C + j) else l0.getD (p i j) 0
  | 0, _ => ⟨fun i j => l0.getD (p i j) 0, ⟨rfl, fun _ _ _ _ => rfl, fun _ _ => rfl⟩, fun i j _ _ => by simp⟩
  | k + 1, hk => by
    obtain ⟨f, h, hf⟩ := writes_hold hp t k (by omega)
    have hC : 0 < C := by rcases Nat.eq_zero_or_pos C with h0 | h0 <;> simp_all
    have hi : k / C < R := by rw [Nat.div_lt_iff_lt_mul hC]; omega
    have hj : k % C < C := Nat.mod_lt _ hC
    refine ⟨_, h.set hp hi hj, fun i j hi' hj' => ?_⟩
    have hk2 : k / C * C + k % C = k := by rw [Nat.mul_comm]; exact Nat.div_add_mod k C
    by_cases he : i = k / C ∧ j = k % C
    · obtain ⟨rfl, rfl⟩ := he
      rw [if_pos ⟨rfl, rfl⟩, hk2, if_pos (by omega)]
    · rw [if_neg he, hf i j hi' hj']
      have hne : i * C + j ≠ k := fun e => he ⟨by rw [← e]; exact (at_div hj').1.symm, by rw [← e]; exact (at_div hj').2.symm⟩
      by_cases h1 : i * C + j < k
      · rw [if_pos h1, if_pos (by omega)]
      · rw [if_neg h1, if_neg (by omega)]
theorem swaps_hold (hp : Places p R C l0.length) (h : Hold p R C l0 l f) {i k : Nat} (hi : i < R) (hk : k < R) : ∀ j, j ≤ C →
    Hold p R C l0 (swaps l (p i) (p k) j) (swapF f i k j)
  | 0, _ => h.congr fun r c _ _ => by simp [swapF]
  | j + 1, hj => by
    have h1 := swaps_hold hp h hi hk j (by omega)
    have hj' : j < C := by omega
    unfold swaps
    rw [h1.get i j hi hj', h1.get k j hk hj']
    refine ((h1.set hp (x := swapF f i k j k j) hi hj').set hp (x := swapF f i k j i j) hk hj').congr fun r c hr hc => ?_
    unfold swapF
    by_cases e1 : c = j
    · subst e1
      by_cases e2 : r = k
      · subst e2
        by_cases e3 : r = i <;> simp [e3]
      · by_cases e3 : r = i
        · simp [e2, e3]; intro h4; exact absurd (e3.trans h4) e2
        · simp [e2, e3]
    · have : c < j + 1 ↔ c < j := by omega
      simp [e1, this]
/-- A good matrix' places. -/
theorem MatM.places {m : MatM} (h : m.good = true) : Places m.place m.rows.toNat m.cols.toNat m.ws.length := by
  have h0 := MatM.good_n h
  refine ⟨fun i j hi hj => ?_, fun i j i' j' hi hj hi' hj' he => ?_⟩
  · have := MatM.good_place h (i := i) (j := j) (by omega) (by omega)
    unfold MatM.place; omega
  · have h1 := MatM.good_place h (i := i) (j := j) (by omega) (by omega)
    have h2 := MatM.good_place h (i := i') (j := j') (by omega) (by omega)
    unfold MatM.place at he
    have e : (i : Int) + j * m.ld = i' + j' * m.ld := by omega
    have hj2 : j = j' := by
      rcases Nat.lt_trichotomy j j' with h3 | h3 | h3
      · have : ((j : Int) + 1) * m.ld ≤ j' * m.ld := Int.mul_le_mul_of_nonneg_right (by omega) (by omega)
        rw [Int.add_mul] at this; omega
      · exact h3
      · have : ((j' : Int) + 1) * m.ld ≤ j * m.ld := Int.mul_le_mul_of_nonneg_right (by omega) (by omega)
        rw [Int.add_mul] at this; omega
    subst hj2
    exact ⟨by omega, rfl⟩
theorem MatM.hold {m : MatM} : Hold m.place m.rows.toNat m.cols.toNat m.ws m.ws m.num := ⟨rfl, fun _ _ _ _ => rfl, fun _ _ => rfl⟩
/-- A table's places. -/
theorem tabPlaces (R C : Nat) : Places (fun i j => i * C + j) R C (R * C) :=
  ⟨fun _ _ hi hj => at_lt hi hj, fun i j i' j' _ hj _ hj' he => ⟨by have h1 := (at_div (i := i) hj).1; have h2 := (at_div (i := i') hj').1; rw [← h1, ← h2, he], by have h1 := (at_div (i := i) hj).2; have h2 := (at_div (i := i') hj').2; rw [← h1, ← h2, he]⟩⟩
theorem MatM.tab_hold (m : MatM) : Hold (fun i j => i * m.cols.toNat + j) m.rows.toNat m.cols.toNat (List.replicate (m.rows.toNat * m.cols.toNat) 0) m.tab m.num := by
  have hp := tabPlaces m.rows.toNat m.cols.toNat
  rw [← List.length_replicate (n := m.rows.toNat * m.cols.toNat) (a := 0)] at hp
  obtain ⟨f, h, hf⟩ := writes_hold hp (fun t => m.num (t / m.cols.toNat) (t % m.cols.toNat)) _ (Nat.le_refl _)
  have e : (fun s => s / m.cols.toNat * m.cols.toNat + s % m.cols.toNat) = id := by
    funext s; rw [Nat.mul_comm]; exact Nat.div_add_mod s _
  simp only [e] at h
  refine h.congr fun i j hi hj => ?_
  rw [hf i j hi hj, if_pos (at_lt hi hj), (at_div hj).1, (at_div hj).2]
@[simp] theorem MatM.tab_length (m : MatM) : m.tab.length = m.rows.toNat * m.cols.toNat := by simp [MatM.tab, MatM.tabTo]
theorem MatM.into_hold {m : MatM} (h : m.good = true) {t : List Nat} {l1 : List Nat} {f : Nat → Nat → Nat} (ht : Hold (fun i j => i * m.cols.toNat + j) m.rows.toNat m.cols.toNat l1 t f) :
    Hold m.place m.rows.toNat m.cols.toNat m.ws (m.into m.rows.toNat m.cols.toNat t) f := by
  obtain ⟨f', h', hf⟩ := writes_hold (MatM.places h) (fun k => t.getD k 0) _ (Nat.le_refl _)
  refine h'.congr fun i j hi hj => ?_
  rw [hf i j hi hj, if_pos (at_lt hi hj)]
  exact ht.get i j hi hj
end
end Sedge
open Sedge
namespace Go.Proofs.Ytcmggfpcbijcjaa
theorem rowV_place {m : MatM} (hc : 0 < m.cols) (i t : Nat) : (rowV m i).place t = m.place i t := by
  unfold rowV VecM.place MatM.place; simp only [hc, if_true]
theorem swaps_congr {l : List Nat} {p q p' q' : Nat → Nat} (hp : ∀ k, p k = p' k) (hq : ∀ k, q k = q' k) (n : Nat) : swaps l p q n = swaps l p' q' n := by
  have e1 : p = p' := funext hp
  have e2 : q = q' := funext hq
  rw [e1, e2]
/-- What rowsL makes holds what rrowsL makes. -/
theorem rowsL_hold {m : MatM} (hg : m.good = true) {l : List Nat} (hlen : l.length = m.ws.length) {f : Nat → Nat → Nat} (h : Hold m.place m.rows.toNat m.cols.toNat m.ws l f) {i k : Nat} (hi : (i : Int) < m.rows) (hk : (k : Int) < m.rows) :
    Hold m.place m.rows.toNat m.cols.toNat m.ws (rowsL (withL m l) i k) (swapF f i k m.cols.toNat) := by
  have hp := MatM.places hg
  have h2 := swaps_hold hp h (i := i) (k := k) (by omega) (by omega) m.cols.toNat (Nat.le_refl _)
  have hg2 : (withL m l).good = true := by rw [withL_good hlen]; exact hg
  by_cases hik : i = k
  · subst hik
    have e : rowsL (withL m l) i i = l := by unfold rowsL; rw [if_neg (by simp)]; rfl
    rw [e]
    refine h.congr fun r c hr hc => ?_
    unfold swapF
    by_cases e1 : r = i
    · subst e1; simp
    · simp [e1]
  · have e : rowsL (withL m l) i k = swaps l (rowV (withL m l) i).place (rowV (withL m l) k).place m.cols.toNat := by
      unfold rowsL
      rw [if_pos ⟨by unfold rowsOk; rw [hg2]; simp only [Bool.true_and, Bool.and_eq_true, decide_eq_true_eq]; exact ⟨⟨⟨by omega, by omega⟩, hi⟩, hk⟩, by omega⟩]; rfl
    rw [e]
    by_cases hc : 0 < m.cols
    · rw [swaps_congr (p' := m.place i) (q' := m.place k) (fun t => rowV_place (m := withL m l) hc i t) (fun t => rowV_place (m := withL m l) hc k t)]
      exact h2
    · have : m.cols.toNat = 0 := by omega
      rw [this] at h2 ⊢; exact h2
theorem rrowsL_hold {R C : Nat} {t0 t : List Nat} (h0 : t0.length = R * C) {f : Nat → Nat → Nat} (h : Hold (fun i j => i * C + j) R C t0 t f) {i k : Nat} (hi : i < R) (hk : k < R) :
    Hold (fun i j => i * C + j) R C t0 (rrowsL C t i k) (swapF f i k C) :=
  swaps_hold (by rw [h0]; exact tabPlaces R C) h hi hk C (Nat.le_refl _)
/-- Rows of a matrix, and of its table. -/
theorem rows_into {m : MatM} (hg : m.good = true) {i k : Nat} (hi : (i : Int) < m.rows) (hk : (k : Int) < m.rows) :
    rowsL m i k = m.into m.rows.toNat m.cols.toNat (rrowsL m.cols.toNat m.tab i k) := by
  have h1 := rowsL_hold hg rfl (MatM.hold (m := m)) hi hk
  have h2 := MatM.into_hold hg (rrowsL_hold (by simp) (MatM.tab_hold m) (i := i) (k := k) (by omega) (by omega))
  exact h1.unique h2 fun _ _ _ _ => rfl
theorem same_into {m : MatM} (hg : m.good = true) : m.ws = m.into m.rows.toNat m.cols.toNat m.tab :=
  (MatM.hold (m := m)).unique (MatM.into_hold hg (MatM.tab_hold m)) fun _ _ _ _ => rfl
theorem takeTo_into {m : MatM} (hg : m.good = true) (zs : List Int) (hz : ordTo m.rows zs zs.length = true) : ∀ n, n ≤ zs.length →
    ∃ f, Hold m.place m.rows.toNat m.cols.toNat m.ws (mtakeTo m zs n) f ∧ Hold (fun i j => i * m.cols.toNat + j) m.rows.toNat m.cols.toNat (List.replicate (m.rows.toNat * m.cols.toNat) 0) (rtakeTo m.cols.toNat m.tab zs n) f
  | 0, _ => ⟨m.num, MatM.hold, MatM.tab_hold m⟩
  | n + 1, hn => by
    obtain ⟨f, h1, h2⟩ := takeTo_into hg zs hz n (by omega)
    have h3 := ordTo_at hz n (by omega)
    obtain ⟨z, hz2⟩ : ∃ z : Nat, zs.getD n 0 = z := ⟨(zs.getD n 0).toNat, by omega⟩
    refine ⟨swapF f n z m.cols.toNat, ?_, ?_⟩
    · unfold mtakeTo; rw [hz2]
      exact rowsL_hold hg (by simp) h1 (by omega) (by omega)
    · unfold rtakeTo; rw [hz2]
      exact rrowsL_hold (by simp) h2 (by omega) (by simp only [Int.toNat_natCast]; omega)
theorem take_into {m : MatM} (hg : m.good = true) (zs : List Int) : mtakeE m zs = takeE m.rows zs ∧ mtakeL m zs = m.into m.rows.toNat m.cols.toNat (rtakeL m.rows.toNat m.cols.toNat m.tab zs) := by
  have h0 := MatM.good_n hg
  have hE : mtakeE m zs = takeE m.rows zs := by unfold mtakeE; rw [if_pos hg]
  refine ⟨hE, ?_⟩
  have eR : ((m.rows.toNat : Nat) : Int) = m.rows := by omega
  unfold mtakeL rtakeL
  rw [hE, eR]
  by_cases h : takeE m.rows zs = 0
  · rw [if_pos h, if_pos h]
    have hz : ordTo m.rows zs zs.length = true := by
      unfold takeE at h
      split at h
      · cases h
      · split at h
        · assumption
        · cases h
    obtain ⟨f, h1, h2⟩ := takeTo_into hg zs hz zs.length (Nat.le_refl _)
    exact h1.unique (MatM.into_hold hg h2) fun _ _ _ _ => rfl
  · rw [if_neg h, if_neg h]
    exact same_into hg
end Go.Proofs.Ytcmggfpcbijcjaa
