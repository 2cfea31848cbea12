/-
  Plain: vectors that are copied and swapped, in one list or in two.
-/
import Derived.Test.YtcmggfpcbijcjaaGrid
import Derived.Test.YtcmggfpcbijcjaaInto
import Derived.Test.YtcmggfpcbijcjaaMove
set_option linter.unusedSimpArgs false
set_option linter.unusedVariables false
open Go.Proofs.Ytcmggfpcbijcjaa
namespace Sedge
theorem writes_other {l : List Nat} {p f : Nat → Nat} {q : Nat} : ∀ k, (∀ t, t < k → p t ≠ q) → (writes l p f k).getD q 0 = l.getD q 0
  | 0, _ => rfl
  | k + 1, h => by
    unfold writes
    rw [getD_set_ne' (h k (by omega))]
    exact writes_other k fun t ht => h t (by omega)
theorem writes_at {l : List Nat} {p f : Nat → Nat} : ∀ k, (∀ s t, s < k → t < k → p s = p t → s = t) → (∀ t, t < k → p t < l.length) → ∀ t, t < k → (writes l p f k).getD (p t) 0 = f t
  | 0, _, _, t, ht => absurd ht (by omega)
  | k + 1, hi, hl, t, ht => by
    unfold writes
    rcases Nat.lt_or_ge t k with h | h
    · rw [getD_set_ne' (fun e => by have := hi k t (by omega) (by omega) e; omega)]
      exact writes_at k (fun s t hs ht => hi s t (by omega) (by omega)) (fun t ht => hl t (by omega)) t h
    · obtain rfl : t = k := by omega
      exact getD_set_eq (by rw [writes_length]; exact hl t (by omega))
theorem writes_congr {l : List Nat} {p f p' f' : Nat → Nat} : ∀ k, (∀ t, t < k → p t = p' t ∧ f t = f' t) → writes l p f k = writes l p' f' k
  | 0, _ => rfl
  | k + 1, h => by
    unfold writes
    rw [writes_congr k fun t ht => h t (by omega), (h k (by omega)).1, (h k (by omega)).2]
theorem writes_set_comm {l : List Nat} {q f : Nat → Nat} {j v : Nat} : ∀ k, (∀ t, t < k → q t ≠ j) → writes (l.set j v) q f k = (writes l q f k).set j v
  | 0, _ => rfl
  | k + 1, h => by
    unfold writes
    rw [writes_set_comm k fun t ht => h t (by omega), List.set_comm _ _ (h k (by omega)).symm]
theorem swaps_eq {l : List Nat} {p q : Nat → Nat} : ∀ k, (∀ s t, s < k → t < k → p s = p t → s = t) → (∀ s t, s < k → t < k → q s = q t → s = t) → (∀ s t, s < k → t < k → p s ≠ q t) →
    swaps l p q k = writes (writes l p (fun t => l.getD (q t) 0) k) q (fun t => l.getD (p t) 0) k
  | 0, _, _, _ => rfl
  | k + 1, hp, hq, hd => by
    have ih := swaps_eq (l := l) (p := p) (q := q) k (fun s t hs ht => hp s t (by omega) (by omega)) (fun s t hs ht => hq s t (by omega) (by omega)) (fun s t hs ht => hd s t (by omega) (by omega))
    have e1 : (swaps l p q k).getD (q k) 0 = l.getD (q k) 0 := by
      rw [ih, writes_other k fun t ht e => by have := hq t k (by omega) (by omega) e; omega, writes_other k fun t ht => hd t k (by omega) (by omega)]
    have e2 : (swaps l p q k).getD (p k) 0 = l.getD (p k) 0 := by
      rw [ih, writes_other k fun t ht e => hd k t (by omega) (by omega) e.symm, writes_other k fun t ht e => by have := hp t k (by omega) (by omega) e; omega]
    show ((swaps l p q k).set (p k) ((swaps l p q k).getD (q k) 0)).set (q k) ((swaps l p q k).getD (p k) 0) = (writes ((writes l p (fun t => l.getD (q t) 0) k).set (p k) (l.getD (q k) 0)) q (fun t => l.getD (p t) 0) k).set (q k) (l.getD (p k) 0)
    rw [e1, e2, ih, writes_set_comm k fun t ht e => hd k t (by omega) (by omega) e.symm]
def withV (m : VecM) (l : List Nat) : VecM := ⟨l, m.off, m.n, m.inc⟩
theorem withV_right {m : VecM} {l : List Nat} (h : l.length = m.ws.length) : (withV m l).right = m.right := by unfold withV VecM.right; simp only [h]
theorem VecM.place_inj {m : VecM} (h : m.right = true) {s t : Nat} (hs : (s : Int) < m.n) (ht : (t : Int) < m.n) (e : m.place s = m.place t) : s = t := by
  have h1 := m.right_place h hs
  have h2 := m.right_place h ht
  have h3 := m.right_n h
  unfold VecM.place at e
  have e2 : (s : Int) * m.inc = t * m.inc := by omega
  have := Int.eq_of_mul_eq_mul_right (by omega) e2
  omega
theorem VecM.place_lt {m : VecM} (h : m.right = true) {s : Nat} (hs : (s : Int) < m.n) : m.place s < m.ws.length := by
  have h1 := m.right_place h hs
  unfold VecM.place; omega
theorem VecM.list_get {m : VecM} {t : Nat} (ht : (t : Int) < m.n) : m.list.getD t 0 = m.num t := by
  have h1 : t < m.n.toNat := by omega
  unfold VecM.list
  rw [List.getD_eq_getElem?_getD, List.getElem?_map, List.getElem?_range h1]; rfl
theorem VecM.list_length {m : VecM} : m.list.length = m.n.toNat := by unfold VecM.list; simp
/-- Do two vectors' places meet, of the first i of one? -/
def meetsTo (a b : VecM) (i : Nat) : Bool := (List.range i).any fun s => (List.range b.n.toNat).any fun t => decide (a.off + s * a.inc = b.off + t * b.inc)
def meetsB (a b : VecM) : Bool := meetsTo a b a.n.toNat
theorem meetsTo_succ (a b : VecM) (i : Nat) : meetsTo a b (i + 1) = (meetsTo a b i || (List.range b.n.toNat).any fun t => decide (a.off + i * a.inc = b.off + t * b.inc)) := by
  unfold meetsTo; rw [List.range_succ, List.any_append]; simp
def hitTo (p : Int) (b : VecM) (k : Nat) : Bool := (List.range k).any fun t => decide (p = b.off + t * b.inc)
theorem hitTo_succ (p : Int) (b : VecM) (k : Nat) : hitTo p b (k + 1) = (hitTo p b k || decide (p = b.off + k * b.inc)) := by
  unfold hitTo; rw [List.range_succ, List.any_append]; simp
theorem hit_iff (far inc n : Int) (h : 1 ≤ inc) : (0 ≤ far ∧ far % inc = 0 ∧ far / inc < n) ↔ ∃ t : Nat, t < n.toNat ∧ far = t * inc := by
  constructor
  · rintro ⟨h1, h2, h3⟩
    have h4 : 0 ≤ far / inc := Int.ediv_nonneg h1 (by omega)
    refine ⟨(far / inc).toNat, by omega, ?_⟩
    rw [Int.toNat_of_nonneg h4]
    have := Int.mul_ediv_add_emod far inc
    rw [h2, Int.mul_comm] at this; omega
  · rintro ⟨t, h1, rfl⟩
    refine ⟨Int.mul_nonneg (by omega) (by omega), by simp, ?_⟩
    rw [Int.mul_ediv_cancel _ (by omega)]; omega
theorem hit_B (p : Int) (b : VecM) (h : 1 ≤ b.inc) : (decide (0 ≤ p - b.off) && decide ((p - b.off) % b.inc = 0) && decide ((p - b.off) / b.inc < b.n)) = hitTo p b b.n.toNat := by
  rw [Bool.eq_iff_iff]
  unfold hitTo
  simp only [Bool.and_eq_true, decide_eq_true_eq, List.any_eq_true, List.mem_range]
  rw [and_assoc, hit_iff _ _ _ h]
  constructor
  · rintro ⟨t, h1, h2⟩; exact ⟨t, h1, by omega⟩
  · rintro ⟨t, h1, h2⟩; exact ⟨t, h1, by omega⟩
theorem meetsTo_mono {a b : VecM} {i j : Nat} (h : meetsTo a b i = true) (hij : i ≤ j) : meetsTo a b j = true := by
  unfold meetsTo at *
  rw [List.any_eq_true] at *
  obtain ⟨s, h1, h2⟩ := h
  exact ⟨s, by simp only [List.mem_range] at *; omega, h2⟩
theorem meetsB_no {a b : VecM} (h : meetsB a b = false) (ha : a.right = true) (hb : b.right = true) {s t : Nat} (hs : (s : Int) < a.n) (ht : (t : Int) < b.n) : a.place s ≠ b.place t := by
  intro e
  have h1 := a.right_place ha hs
  have h2 := b.right_place hb ht
  unfold VecM.place at e
  unfold meetsB meetsTo at h
  rw [List.any_eq_false] at h
  have h3 := h s (by simp only [List.mem_range]; omega)
  rw [List.any_eq_true] at h3
  exact h3 ⟨t, by simp only [List.mem_range]; omega, by rw [decide_eq_true_eq]; omega⟩
def pairE (a b : VecM) (one : Bool) : Int := if a.right = true ∧ b.right = true then (if a.n = b.n then (if one = true ∧ meetsB a b = true then 2 else 0) else 3) else 1
/-- What move.Copy makes of the list it writes, k numbers long: of a list of its own, or of the same. -/
theorem copy_own {a b : VecM} (hb : b.n = a.n) : writes a.ws a.place b.num a.n.toNat = VecMwrite a b.list := by
  unfold VecMwrite VecMwriteTo
  rw [VecM.list_length, hb, Nat.min_self]
  exact writes_congr _ fun t ht => ⟨rfl, (VecM.list_get (by omega)).symm⟩
end Sedge
