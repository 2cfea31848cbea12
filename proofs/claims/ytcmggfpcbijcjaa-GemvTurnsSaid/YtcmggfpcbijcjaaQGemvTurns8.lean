/-
  Texts laid one behind the other (a claim has at most 60 files): Dig, Dint, Dy1, Boxd, Ger3, OwnB, Aw04, Fork, Aw07, LawTurns.
-/
import Derived.Deep.CutBlock
import Derived.Deep.DeepCutAuto
import Derived.Deep.RegionWith
import Derived.Test.YtcmggfpcbijcjaaQGemvTurns1
import Derived.Test.YtcmggfpcbijcjaaQGemvTurns2
import Derived.Test.YtcmggfpcbijcjaaQGemvTurns3
import Derived.Test.YtcmggfpcbijcjaaQGemvTurns4
import Derived.Test.YtcmggfpcbijcjaaQGemvTurns5
import Derived.Test.YtcmggfpcbijcjaaQGemvTurns6
import Derived.Test.YtcmggfpcbijcjaaQGemvTurns7
section
/-
  Plain laws on the reference's digits: lists of 16 bits, what they are worth.
-/
set_option linter.unusedSimpArgs false
set_option linter.unusedVariables false
namespace Sedge
open Ieee

def dv : List Nat → Nat
  | [] => 0
  | d :: l => d + 65536 * dv l
theorem dv_append : ∀ (a b : List Nat), dv (a ++ b) = dv a + 65536 ^ a.length * dv b
  | [], b => by simp [dv]
  | d :: a, b => by
    show d + 65536 * dv (a ++ b) = d + 65536 * dv a + 65536 ^ (a.length + 1) * dv b
    rw [dv_append a b, Nat.pow_succ, Nat.mul_add, Nat.mul_comm (65536 ^ a.length) 65536, Nat.mul_assoc]; omega
def Dg (l : List Nat) : Prop := ∀ d ∈ l, d < 65536
theorem Dg.nil : Dg [] := fun d h => by cases h
theorem Dg.tail {d : Nat} {l : List Nat} (h : Dg (d :: l)) : Dg l := fun x hx => h x (List.mem_cons_of_mem _ hx)
theorem Dg.append {a b : List Nat} (h : Dg a) (k : Dg b) : Dg (a ++ b) := fun x hx => by
  rcases List.mem_append.1 hx with hx | hx
  · exact h x hx
  · exact k x hx
theorem Dg.one {d : Nat} (h : d < 65536) : Dg [d] := fun x hx => by simp at hx; omega
theorem Dg.get {l : List Nat} (h : Dg l) (i : Nat) : l.getD i 0 < 65536 := by
  rw [List.getD_eq_getElem?_getD]
  by_cases hi : i < l.length
  · rw [List.getElem?_eq_getElem hi]; exact h _ (List.getElem_mem hi)
  · rw [List.getElem?_eq_none (by omega)]; decide
theorem Dg.set {l : List Nat} (h : Dg l) (i : Nat) {x : Nat} (hx : x < 65536) : Dg (l.set i x) := fun d hd => by
  rcases List.mem_or_eq_of_mem_set hd with hd | hd
  · exact h d hd
  · omega
theorem Dg.replicate (n : Nat) : Dg (List.replicate n 0) := fun d hd => by rw [List.eq_of_mem_replicate hd]; decide
theorem Dg.dropLast {l : List Nat} (h : Dg l) : Dg l.dropLast := fun d hd => h d (List.dropLast_subset l hd)
theorem dv_lt : ∀ {l : List Nat}, Dg l → dv l < 65536 ^ l.length
  | [], _ => by simp [dv]
  | d :: l, h => by
    have h1 := dv_lt h.tail
    have h2 := h d (List.mem_cons_self ..)
    show d + 65536 * dv l < 65536 ^ (l.length + 1)
    rw [Nat.pow_succ]; omega
theorem dv_replicate : ∀ n, dv (List.replicate n 0) = 0
  | 0 => rfl
  | n + 1 => by show 0 + 65536 * dv (List.replicate n 0) = 0; rw [dv_replicate n]
theorem dv_set : ∀ {l : List Nat} {i : Nat}, i < l.length → ∀ x, dv (l.set i x) + l.getD i 0 * 65536 ^ i = dv l + x * 65536 ^ i
  | [], i, h, x => by simp at h
  | d :: l, 0, h, x => by simp [dv]; omega
  | d :: l, i + 1, h, x => by
    have := dv_set (l := l) (i := i) (by simpa using h) x
    show d + 65536 * dv (l.set i x) + l.getD i 0 * 65536 ^ (i + 1) = d + 65536 * dv l + x * 65536 ^ (i + 1)
    rw [Nat.pow_succ, ← Nat.mul_assoc, ← Nat.mul_assoc]; omega
theorem dv_get_le : ∀ (l : List Nat) (i : Nat), l.getD i 0 * 65536 ^ i ≤ dv l
  | [], i => by simp
  | d :: l, 0 => by simp [dv]
  | d :: l, i + 1 => by
    have := dv_get_le l i
    show l.getD i 0 * 65536 ^ (i + 1) ≤ d + 65536 * dv l
    rw [Nat.pow_succ, ← Nat.mul_assoc]; omega
theorem dv_pos {l : List Nat} (h : l ≠ []) (hl : l.getLast h ≠ 0) : dv l ≠ 0 := by
  intro h0
  have h1 := dv_get_le l (l.length - 1)
  rw [h0] at h1
  have hlen : 0 < l.length := List.length_pos_iff.2 h
  have e : l.getD (l.length - 1) 0 = l.getLast h := by
    rw [List.getLast_eq_getElem, List.getD_eq_getElem?_getD, List.getElem?_eq_getElem (by omega)]; rfl
  rw [e] at h1
  have : 0 < 65536 ^ (l.length - 1) := Nat.pow_pos (by decide)
  have h2 : 0 < l.getLast h * 65536 ^ (l.length - 1) := Nat.mul_pos (by omega) this
  omega
theorem dv_nil_or {l : List Nat} (h : ∀ h : l ≠ [], l.getLast h ≠ 0) (h0 : dv l = 0) : l = [] := Decidable.byContradiction fun hn => dv_pos hn (h hn) h0
theorem dv_dropLast {l : List Nat} (h : l ≠ []) (hl : l.getLast h = 0) : dv l.dropLast = dv l := by
  have := dv_append l.dropLast [l.getLast h]
  rw [List.dropLast_concat_getLast] at this
  rw [this, hl]; simp [dv]

/-- The sum of so many digits. -/
def ds (f : Nat → Nat) : Nat → Nat
  | 0 => 0
  | k + 1 => ds f k + f k * 65536 ^ k
theorem ds_congr {f g : Nat → Nat} : ∀ {n : Nat}, (∀ k, k < n → f k = g k) → ds f n = ds g n
  | 0, _ => rfl
  | n + 1, h => by
    unfold ds
    rw [ds_congr (fun k hk => h k (by omega)), h n (by omega)]
theorem ds_lt {f : Nat → Nat} (h : ∀ k, f k < 65536) : ∀ n, ds f n < 65536 ^ n
  | 0 => by simp [ds]
  | n + 1 => by
    have h1 := ds_lt h n
    have h2 := h n
    unfold ds
    rw [Nat.pow_succ]
    have : f n * 65536 ^ n ≤ 65535 * 65536 ^ n := Nat.mul_le_mul_right _ (by omega)
    omega
theorem ds_succ' (f : Nat → Nat) : ∀ n, ds f (n + 1) = f 0 + 65536 * ds (fun k => f (k + 1)) n
  | 0 => by simp [ds]
  | n + 1 => by
    have := ds_succ' f n
    show ds f (n + 1) + f (n + 1) * 65536 ^ (n + 1) = f 0 + 65536 * (ds (fun k => f (k + 1)) n + f (n + 1) * 65536 ^ n)
    rw [this, Nat.pow_succ, Nat.mul_add, Nat.mul_left_comm 65536, Nat.mul_comm 65536 (65536 ^ n)]
    omega
theorem ds_list : ∀ (l : List Nat), ds (fun k => l.getD k 0) l.length = dv l
  | [] => rfl
  | d :: l => by
    show ds _ (l.length + 1) = _
    rw [ds_succ']
    have := ds_list l
    show d + 65536 * ds (fun k => l.getD k 0) l.length = _
    rw [this]; rfl
theorem ds_zero {f : Nat → Nat} {n : Nat} (h : ∀ k, k < n → f k = 0) : ds f n = 0 := by
  rw [ds_congr h]
  clear h
  induction n with
  | zero => rfl
  | succ n ih => unfold ds; rw [ih]; simp
theorem ds_add (f : Nat → Nat) (a : Nat) : ∀ b, ds f (a + b) = ds f a + 65536 ^ a * ds (fun k => f (a + k)) b
  | 0 => by simp [ds]
  | b + 1 => by
    show ds f (a + b) + f (a + b) * 65536 ^ (a + b) = ds f a + 65536 ^ a * (ds (fun k => f (a + k)) b + f (a + b) * 65536 ^ b)
    rw [ds_add f a b, Nat.mul_add, Nat.pow_add, Nat.mul_left_comm]; omega
/-- The digit of a place. -/
def digAt (l : List Nat) (E p : Int) : Nat := if p < E ∨ E + l.length ≤ p then 0 else l.getD (p - E).toNat 0
theorem digAt_lt {l : List Nat} (h : Dg l) (E p : Int) : digAt l E p < 65536 := by
  unfold digAt; split
  · decide
  · exact h.get _
theorem ds_digAt {l : List Nat} {E F : Int} {n : Nat} (h1 : F ≤ E) (h2 : E + l.length ≤ F + n) : ds (fun k => digAt l E (F + k)) n = 65536 ^ (E - F).toNat * dv l := by
  obtain ⟨a, ha⟩ : ∃ a : Nat, a = (E - F).toNat := ⟨_, rfl⟩
  obtain ⟨c, hc⟩ : ∃ c : Nat, c = n - a - l.length := ⟨_, rfl⟩
  have en : n = a + (l.length + c) := by omega
  rw [en, ds_add, ds_add, ← ha]
  rw [ds_zero (f := fun k => digAt l E (F + k)) (n := a) (fun k hk => by unfold digAt; rw [if_pos (by omega)])]
  rw [ds_zero (n := c) (fun k hk => by show digAt l E (F + _) = 0; unfold digAt; rw [if_pos (by omega)])]
  rw [ds_congr (g := fun k => l.getD k 0) (n := l.length) (fun k hk => by
    show digAt l E (F + ((a + k : Nat) : Int)) = _
    unfold digAt; rw [if_neg (by omega)]; congr 1; omega)]
  rw [ds_list]; simp
theorem ds_digAt_nil {E F : Int} {n : Nat} : ds (fun k => digAt [] E (F + k)) n = 0 := ds_zero fun k _ => by
  unfold digAt; split <;> simp
theorem p2_pow16 (n : Nat) : ((65536 ^ n : Nat) : Rat) = p2 (16 * n) := by
  have : (65536 : Nat) ^ n = 2 ^ (16 * n) := by rw [Nat.pow_mul]
  rw [this, ← p2_nat]; congr 1
/-- What is worth the digits of places from F on. -/
theorem ds_worth {l : List Nat} {E F : Int} {n : Nat} (h : l = [] ∨ F ≤ E ∧ E + l.length ≤ F + n) : (ds (fun k => digAt l E (F + k)) n : Rat) * p2 (16 * F) = (dv l : Rat) * p2 (16 * E) := by
  rcases h with rfl | ⟨h1, h2⟩
  · rw [ds_digAt_nil]; simp [dv]
  · rw [ds_digAt h1 h2, Rat.natCast_mul, p2_pow16]
    have : p2 (16 * E) = p2 (16 * ((E - F).toNat : Nat)) * p2 (16 * F) := by rw [← p2_add]; congr 1; omega
    rw [this]; grind
/-- The highest digit that differs decides. -/
theorem ds_less {f g : Nat → Nat} (hf : ∀ k, f k < 65536) {p n : Nat} (hp : p < n) (h : f p < g p) (he : ∀ k, p < k → k < n → f k = g k) : ds f n < ds g n := by
  obtain ⟨c, rfl⟩ : ∃ c, n = p + 1 + c := ⟨n - (p + 1), by omega⟩
  rw [ds_add f (p + 1) c, ds_add g (p + 1) c, ds_congr (f := fun k => f (p + 1 + k)) (g := fun k => g (p + 1 + k)) (fun k hk => he _ (by omega) (by omega))]
  refine Nat.add_lt_add_right ?_ _
  unfold ds
  have h1 := ds_lt hf p
  have h2 : (f p + 1) * 65536 ^ p ≤ g p * 65536 ^ p := Nat.mul_le_mul_right _ h
  rw [Nat.add_mul] at h2
  omega
/-- One step of a product's row. -/
theorem mul_step {l : List Nat} {i c a b : Nat} (hi : i < l.length) :
    dv (l.set i ((c + a * b + l.getD i 0) % 65536)) + (c + a * b + l.getD i 0) / 65536 * 65536 ^ (i + 1) = dv l + c * 65536 ^ i + a * b * 65536 ^ i := by
  have h1 := dv_set hi ((c + a * b + l.getD i 0) % 65536)
  have h2 := Nat.div_add_mod (c + a * b + l.getD i 0) 65536
  generalize (c + a * b + l.getD i 0) / 65536 = q at *
  generalize (c + a * b + l.getD i 0) % 65536 = m at *
  rw [Nat.pow_succ]
  generalize 65536 ^ i = P at *
  have h3 : (65536 * q + m) * P = (c + a * b + l.getD i 0) * P := by rw [h2]
  rw [Nat.add_mul, Nat.add_mul, Nat.add_mul, Nat.mul_assoc] at h3
  rw [Nat.mul_comm P 65536, Nat.mul_left_comm q]
  omega
theorem mul_carry {c a b d : Nat} (hc : c < 65536) (ha : a < 65536) (hb : b < 65536) (hd : d < 65536) : c + a * b + d < 4294967296 ∧ (c + a * b + d) / 65536 < 65536 := by
  have : a * b ≤ 65535 * 65535 := Nat.mul_le_mul (by omega) (by omega)
  omega
/-- One step of a shift. -/
theorem shift_step {l : List Nat} {i d r : Nat} (hi : i + 1 < l.length) (hl : Dg l) (hd : d < 65536) (hr : r < 16) (h0 : l.getD i 0 < 2 ^ r) (hz : ∀ k, i < k → l.getD k 0 = 0) :
    dv ((l.set i (l.getD i 0 + d * 2 ^ r % 65536)).set (i + 1) (d * 2 ^ r / 65536)) = dv l + d * 2 ^ r * 65536 ^ i ∧ Dg ((l.set i (l.getD i 0 + d * 2 ^ r % 65536)).set (i + 1) (d * 2 ^ r / 65536)) ∧
    ((l.set i (l.getD i 0 + d * 2 ^ r % 65536)).set (i + 1) (d * 2 ^ r / 65536)).getD (i + 1) 0 < 2 ^ r ∧ ∀ k, i + 1 < k → ((l.set i (l.getD i 0 + d * 2 ^ r % 65536)).set (i + 1) (d * 2 ^ r / 65536)).getD k 0 = 0 := by
  have e : 2 ^ r * 2 ^ (16 - r) = 65536 := by rw [← Nat.pow_add, show r + (16 - r) = 16 by omega]
  have hg : 0 < 2 ^ r := Nat.two_pow_pos r
  have hh : 0 < 2 ^ (16 - r) := Nat.two_pow_pos _
  have hm : l.getD i 0 + d * 2 ^ r % 65536 < 65536 := by
    have h1 : d * 2 ^ r % 65536 = 2 ^ r * (d % 2 ^ (16 - r)) := by rw [← e, Nat.mul_comm d, Nat.mul_mod_mul_left]
    have h2 := Nat.mod_lt d hh
    have h3 : 2 ^ r * (d % 2 ^ (16 - r) + 1) ≤ 2 ^ r * 2 ^ (16 - r) := Nat.mul_le_mul_left _ h2
    rw [Nat.mul_add, e] at h3
    omega
  have hq : d * 2 ^ r / 65536 < 2 ^ r := by
    rw [Nat.div_lt_iff_lt_mul (by decide), Nat.mul_comm]
    exact Nat.mul_lt_mul_of_pos_left hd hg
  have hr2 : 2 ^ r ≤ 32768 := by
    have := Nat.pow_le_pow_right (n := 2) (by decide) (show r ≤ 15 by omega)
    omega
  refine ⟨?_, (hl.set _ hm).set _ (by omega), ?_, ?_⟩
  · have s1 := dv_set (l := l) (i := i) (by omega) (l.getD i 0 + d * 2 ^ r % 65536)
    have s2 := dv_set (l := l.set i (l.getD i 0 + d * 2 ^ r % 65536)) (i := i + 1) (by simpa using hi) (d * 2 ^ r / 65536)
    have e2 : (l.set i (l.getD i 0 + d * 2 ^ r % 65536)).getD (i + 1) 0 = 0 := by
      rw [List.getD_eq_getElem?_getD, List.getElem?_set_ne (by omega), ← List.getD_eq_getElem?_getD]
      exact hz _ (by omega)
    rw [e2] at s2
    have hdm := Nat.div_add_mod (d * 2 ^ r) 65536
    generalize d * 2 ^ r / 65536 = q at *
    generalize d * 2 ^ r % 65536 = m at *
    generalize d * 2 ^ r = T at *
    rw [Nat.pow_succ] at s2
    subst hdm
    rw [Nat.add_mul, Nat.mul_assoc, Nat.mul_left_comm]
    rw [Nat.add_mul] at s1
    rw [Nat.mul_comm (65536 ^ i) 65536, Nat.mul_left_comm q] at s2
    rw [Nat.mul_left_comm q] 
    omega
  · rw [List.getD_eq_getElem?_getD, List.getElem?_set, if_pos rfl, if_pos (by simpa using hi)]
    exact hq
  · intro k hk
    rw [List.getD_eq_getElem?_getD, List.getElem?_set_ne (by omega), List.getElem?_set_ne (by omega), ← List.getD_eq_getElem?_getD]
    exact hz _ (by omega)
end Sedge
end
section
/-
  Slices of digits: how they read; blocks of them that may be written; appends, make.
-/
set_option linter.unusedSimpArgs false
set_option linter.unusedVariables false
namespace Sedge
open Go Go.RowKit

theorem Grew.same_o {X : World} {o : Array Obj} {n n' : Nat} : Grew (Sedge.ext X o n) (Sedge.ext X o n') := ⟨#[], n', by simp⟩
theorem Grew.app_o {X : World} {o o' : Array Obj} {n n' : Nat} : Grew (Sedge.ext X o n) (Sedge.ext X (o ++ o') n') := ⟨o', n', by simp⟩
/-- The slice v reads, in w, as the digits l. -/
def NS (w : World) (v : Value) (l : List Nat) : Prop :=
  ∃ a cap, v = .slice a l.length cap ∧ l.length ≤ cap ∧ ∀ i, i < l.length → ∃ blk o, a = some ⟨blk, o, none⟩ ∧ w.cell? ⟨blk, o + i, none⟩ = some (.int .i64 (l.getD i 0 : Nat))
theorem NS.shape {w : World} {v : Value} {l : List Nat} (h : NS w v l) : ∃ a cap, v = .slice a l.length cap := by
  obtain ⟨a, cap, rfl, _⟩ := h; exact ⟨a, cap, rfl⟩
theorem NS.at {w : World} {a : Option Addr} {n cap : Nat} {l : List Nat} (h : NS w (.slice a n cap) l) : n = l.length ∧ n ≤ cap ∧ (0 < l.length → ∃ blk o, a = some ⟨blk, o, none⟩ ∧ blk < w.heap.size ∧
      ∀ i, i < l.length → w.cell? ⟨blk, o + i, none⟩ = some (.int .i64 (l.getD i 0 : Nat))) := by
  obtain ⟨a', cap', e, h0, hc⟩ := h
  cases e
  refine ⟨rfl, h0, fun hn => ?_⟩
  obtain ⟨blk, o, rfl, h1⟩ := hc 0 hn
  refine ⟨blk, o, rfl, World.block_lt_of_cell? w _ h1, fun i hi => ?_⟩
  obtain ⟨blk', o', he, h1'⟩ := hc i hi
  cases he
  exact h1'
theorem NS.open {w : World} {v : Value} {l : List Nat} (h : NS w v l) (hn : 0 < l.length) :
    ∃ blk o cap, v = .slice (some ⟨blk, o, none⟩) l.length cap ∧ blk < w.heap.size ∧ l.length ≤ cap ∧
      ∀ i, i < l.length → w.cell? ⟨blk, o + i, none⟩ = some (.int .i64 (l.getD i 0 : Nat)) := by
  obtain ⟨a, cap, rfl⟩ := h.shape
  obtain ⟨blk, o, rfl, h1, h2⟩ := h.at.2.2 hn
  exact ⟨blk, o, cap, rfl, h1, h.at.2.1, h2⟩
theorem NS.same {w w' : World} {v : Value} {l : List Nat} (h : NS w v l) (hs : ∀ a : Addr, a.block < w.heap.size → w'.cell? a = w.cell? a) : NS w' v l := by
  obtain ⟨a, cap, hv, h0, hc⟩ := h
  refine ⟨a, cap, hv, h0, fun i hi => ?_⟩
  obtain ⟨blk, o, he, h1⟩ := hc i hi
  exact ⟨blk, o, he, by rw [hs _ (World.block_lt_of_cell? w _ h1)]; exact h1⟩
theorem NS.below {w w' : World} {v : Value} {l : List Nat} (h : NS w v l) (hb : Below w.heap.size w w') : NS w' v l := h.same fun _ ha => hb.cell ha
theorem NS.grew {w w' : World} {v : Value} {l : List Nat} (h : NS w v l) (g : Grew w w') : NS w' v l := h.below g.below
theorem NS.ext {w : World} {v : Value} {l : List Nat} (h : NS w v l) (o : Array Obj) (n : Nat) : NS (ext w o n) v l := h.grew ⟨_, _, rfl⟩
theorem NS.alloc {w : World} {v : Value} {l : List Nat} (h : NS w v l) (o : Obj) : NS (w.alloc o) v l := h.grew ((Grew.refl _).alloc o)
theorem NS.nil (w : World) : NS w (.slice none 0 0) [] := ⟨none, 0, rfl, Nat.le_refl _, fun i hi => by simp at hi⟩
/-- Without the first. -/
theorem NS.tail {w : World} {blk o n cap d : Nat} {l : List Nat} (h : NS w (.slice (some ⟨blk, o, none⟩) n cap) (d :: l)) : NS w (.slice (some ⟨blk, o + 1, none⟩) (n - 1) (cap - 1)) l := by
  obtain ⟨a, c, e, h0, hc⟩ := h
  cases e
  refine ⟨_, _, rfl, by simp at h0; omega, fun i hi => ?_⟩
  obtain ⟨blk', o', he, h1⟩ := hc (i + 1) (by simp; omega)
  cases he
  exact ⟨blk, o + 1, rfl, by rw [show o + 1 + i = o + (i + 1) by omega]; exact h1⟩
theorem NS.tail' {w : World} {blk o n cap d : Nat} {l : List Nat} (h : NS w (.slice (some ⟨blk, o, none⟩) n cap) (d :: l)) : NS w (.slice (if cap = 1 then some ⟨blk, o, none⟩ else some ⟨blk, o + 1, none⟩) l.length (cap - 1)) l := by
  have hn := h.at.1
  have hc := h.at.2.1
  have e : n - 1 = l.length := by rw [hn]; simp
  have h1 := h.tail
  rw [e] at h1
  simp at hn
  by_cases h0 : cap = 1
  · rw [if_pos h0]
    have : l = [] := List.length_eq_zero_iff.1 (by omega)
    subst this
    exact ⟨_, _, rfl, Nat.zero_le _, fun i hi => by simp at hi⟩
  · rw [if_neg h0]; exact h1
theorem NS.dropLast {w : World} {a : Option Addr} {n cap : Nat} {l : List Nat} (h : NS w (.slice a n cap) l) : NS w (.slice a (n - 1) cap) l.dropLast := by
  obtain ⟨a', c, e, h0, hc⟩ := h
  cases e
  refine ⟨a, cap, by simp, by simp; omega, fun i hi => ?_⟩
  have hi' : i < l.length - 1 := by simpa using hi
  obtain ⟨blk', o', he, h1⟩ := hc i (by omega)
  refine ⟨blk', o', he, ?_⟩
  rw [h1]
  congr 2
  rw [List.getD_eq_getElem?_getD, List.getD_eq_getElem?_getD, List.getElem?_dropLast, if_pos hi']

/-- The cells of digits. -/
def ia (l : List Nat) : Array Value := (l.map fun d : Nat => Value.int .i64 d).toArray
@[simp] theorem ia_size (l : List Nat) : (ia l).size = l.length := by simp [ia]
theorem ia_get (l : List Nat) {i : Nat} (h : i < l.length) : (ia l)[i]? = some (.int .i64 (l.getD i 0 : Nat)) := by
  simp [ia, List.getD_eq_getElem?_getD, h]
theorem ia_set (l : List Nat) (i d : Nat) : (ia l).setIfInBounds i (.int .i64 (d : Nat)) = ia (l.set i d) := by
  unfold ia; rw [List.setIfInBounds_toArray, List.map_set]
/-- Block b holds the digits l and no more; it may be written. -/
def IB (w : World) (b : Nat) (l : List Nat) : Prop := ∃ e, w.heap[b]? = some (.cells (ia l) e (0, 0))
section
variable {w : World} {b : Nat} {l : List Nat}
theorem IB.lt (h : IB w b l) : b < w.heap.size := by
  obtain ⟨e, h1⟩ := h
  exact (Array.getElem?_eq_some_iff.1 h1).1
theorem IB.notFrozen (h : IB w b l) (i : Nat) : w.frozen? ⟨b, i, none⟩ = false := by
  obtain ⟨e, h1⟩ := h
  unfold World.frozen?
  simp only [h1]
  simp
theorem IB.self (h : IB w b l) : upd w b (ia l) = w := by
  obtain ⟨e, h1⟩ := h
  unfold upd
  cases w with | mk hp tp dr os' out => ?_
  simp only [World.mk.injEq, true_and, and_true] at *
  apply Array.ext_getElem?
  intro i
  rw [Array.getElem?_modify]
  split
  · rename_i he; subst he; rw [h1]; rfl
  · rfl
theorem IB.cells (h : IB w b l) (cs : Array Value) (i : Nat) : (upd w b cs).cell? ⟨b, i, none⟩ = cs[i]? := by
  obtain ⟨e, h1⟩ := h
  unfold World.cell?
  simp only [block_upd h1]
  simp
theorem IB.get (h : IB w b l) {l' : List Nat} {i : Nat} (hi : i < l'.length) : (upd w b (ia l')).cell? ⟨b, i, none⟩ = some (.int .i64 (l'.getD i 0 : Nat)) := by rw [h.cells, ia_get _ hi]
theorem IB.mk' (h : IB w b l) (l' : List Nat) (o : Array Obj) (n : Nat) : IB (Sedge.ext (upd w b (ia l')) o n) b l' := by
  have hlt := h.lt
  obtain ⟨e, h1⟩ := h
  exact ⟨e, by rw [block_ext (by simpa using hlt), block_upd h1]⟩
theorem IB.ns (h : IB w b l) {cap : Nat} (hc : l.length ≤ cap) : NS w (.slice (some ⟨b, 0, none⟩) l.length cap) l := by
  obtain ⟨e, h1⟩ := h
  refine ⟨_, cap, rfl, hc, fun i hi => ⟨b, 0, rfl, ?_⟩⟩
  unfold World.cell?
  simp only [h1, Nat.zero_add]
  simpa using ia_get l hi
theorem IB.same {w' : World} (h : IB w b l) (hs : w'.heap[b]? = w.heap[b]?) : IB w' b l := by
  obtain ⟨e, h1⟩ := h
  exact ⟨e, hs.trans h1⟩
theorem IB.grew {w' : World} (h : IB w b l) (g : Grew w w') : IB w' b l := h.same (g.below.block b h.lt)
theorem IB.ext (h : IB w b l) (o : Array Obj) (n : Nat) : IB (Sedge.ext w o n) b l := h.grew ⟨_, _, rfl⟩
end
theorem NS.upd_ne {w : World} {v : Value} {l : List Nat} (h : NS w v l) {b : Nat} (hn : NotIn b v) (cs : Array Value) : NS (upd w b cs) v l := by
  obtain ⟨a, cap, hv, h0, hc⟩ := h
  refine ⟨a, cap, hv, h0, fun i hi => ?_⟩
  obtain ⟨blk, o, he, h1⟩ := hc i hi
  refine ⟨blk, o, he, ?_⟩
  rw [cell_upd_ne (by exact hn ⟨blk, o, none⟩ _ _ (by rw [hv, he]))]
  exact h1
/-- A slice that is there in w is none of a block that is not. -/
theorem NS.notIn {w : World} {v : Value} {l : List Nat} (h : NS w v l) (hl : l ≠ []) {b : Nat} (hb : w.heap.size ≤ b) : NotIn b v := by
  intro a n c e
  obtain ⟨blk, o, cap, e2, hlt, _⟩ := h.open (List.length_pos_iff.2 hl)
  rw [e] at e2
  have e3 := (Value.slice.inj e2).1
  cases e3
  show blk ≠ b
  omega

/-- The slice v of ours owns the digits l. -/
def OwnN (w : World) (B : Nat) (v : Value) (l : List Nat) : Prop := w.ownsRow B 3 1 v l.length (l.map fun d : Nat => Value.int .i64 d)
theorem OwnN.nil (w : World) (B : Nat) : OwnN w B (.slice none 0 0) [] := ⟨by simp, .inl ⟨rfl, rfl⟩⟩
theorem OwnN.grew {w w' : World} {B : Nat} {v : Value} {l : List Nat} (h : OwnN w B v l) (g : Grew w w') : OwnN w' B v l := by
  obtain ⟨h0, h1⟩ := h
  refine ⟨h0, ?_⟩
  rcases h1 with h1 | ⟨gg, cap, cur, hv, hB, hh, r⟩
  · exact .inl h1
  · have hlt : gg < w.heap.size := by
      rcases Nat.lt_or_ge gg w.heap.size with h | h
      · exact h
      · rw [Array.getElem?_eq_none h] at hh; cases hh
    exact .inr ⟨gg, cap, cur, hv, hB, by rw [g.below.block gg hlt]; exact hh, r⟩
theorem OwnN.ns {w : World} {B : Nat} {v : Value} {l : List Nat} (h : OwnN w B v l) : NS w v l := by
  obtain ⟨_, h1⟩ := h
  rcases h1 with ⟨rfl, h1⟩ | ⟨g, cap, cur, rfl, _, hh, hn, hm, hsz, ht⟩
  · have : l = [] := List.length_eq_zero_iff.1 h1
    subst this
    exact NS.nil w
  · refine ⟨some ⟨g, 0, none⟩, cap, rfl, hn, fun i hi => ⟨g, 0, rfl, ?_⟩⟩
    rw [Nat.mul_one] at ht
    have := take_getElem? (i := i) ht (by simpa using hi)
    simp only [World.cell?, hh, Nat.zero_add, Option.isSome_none, Bool.false_eq_true, if_false]
    rw [← Array.getElem?_toList, this]
    simp [List.getD_eq_getElem?_getD, hi]
theorem OwnN.block {w : World} {B : Nat} {v : Value} {l : List Nat} (h : OwnN w B v l) : ∀ k, v.ownBlock = some k → B ≤ k := by
  obtain ⟨_, h1⟩ := h
  intro k hk
  rcases h1 with ⟨rfl, _⟩ | ⟨g, cap, cur, rfl, hB, _⟩
  · simp [Value.ownBlock] at hk
  · simp [Value.ownBlock] at hk; omega
section
variable {P : Program} {ops : Array Oper} {rest : List Oper} {o : Oper} {a : Act} {Q : Exit → Act → World → Prop}
theorem append1_n {t e' : TypeId} {z0 : Value} (und : P.underlying t = some (.slice 3)) (info : (P.info? 3).map (fun i => (i.zero, i.size, i.bytes)) = some (some z0, 1, 8)) (hz0 : z0.cells.size = 1)
    {W w : World} (hW : Grew W w) {v : Value} {l : List Nat} (hown : OwnN w W.heap.size v l) {d : Nat} {di : Int} (hd : di = (d : Nat))
    (hlen : l.length < 17592186044415) (s x : Operand) (hg : o.guard = none)
    (ho : o.op = .call { callee := .builtin .append, args := #[s, x], argTypes := #[t, t] }) (hs : a.eval s = v) {k : Nat} (hk : k = w.heap.size) (hx : a.eval x = .slice (some ⟨k, 0, none⟩) 1 1)
    (h : ∀ v' oo nn, OwnN (ext W oo nn) W.heap.size v' (l ++ [d]) → wpList P ops Q rest (a.put o.dst v') (ext W oo nn)) :
    wpList P ops Q (o :: rest) a (w.alloc (.cells #[.int .i64 di] e')) := by
  subst hd
  refine append1_v und info hz0 hW (xs := l.map fun d : Nat => Value.int .i64 d) (by simpa [OwnN] using hown) rfl (by simpa using hlen) s x hg ho hs hk hx ?_
  intro v' oo nn h1 _
  exact h v' oo nn (by simpa [OwnN] using h1)
/-- 'make([]int, n)'. -/
theorem make_n {t : TypeId} (und : P.underlying t = some (.slice 3)) (info : (P.info? 3).map (fun i => (i.zero, i.size, i.bytes)) = some (some (.int .i64 0), 1, 8)) {W w : World} (hW : Grew W w) (x c : Operand) (hg : o.guard = none) (hop : o.op = Op.makeSlice t x c) (n : Nat) {L : Int} (hL : L = n) (hl : a.eval x = .int .i64 L) (hc : a.eval c = .int .i64 L)
    (hn : n ≤ 17592186044415)
    (h : ∀ oo nn k, W.heap.size ≤ k → IB (ext W oo nn) k (List.replicate n 0) → wpList P ops Q rest (a.put o.dst (.slice (some ⟨k, 0, none⟩) n n)) (ext W oo nn)) :
    wpList P ops Q (o :: rest) a w := by
  obtain ⟨i0, hi, hz⟩ := Option.map_eq_some_iff.1 info
  simp only [Prod.mk.injEq] at hz
  obtain ⟨hz0, hz1, hz2⟩ := hz
  refine wpList_make_full w hg x c t hop W.heap.size 3 i0 (.int .i64 0) 1 und hi hz0 hz1 .i64 .i64 L L n hl hc hL hL (by rw [hz2]; omega) (by simp [maxLen]; omega) hW.below.size ?_
  intro w' ho hgr
  obtain ⟨oo, nn, rfl⟩ := grew_grown hW hgr (fun k hk => by cases hk)
  refine h oo nn _ hW.below.size ?_
  obtain ⟨_, h1⟩ := ho
  rcases h1 with ⟨h1, _⟩ | ⟨g, cap, cur, he, _, hh, _, _, hsz, ht⟩
  · cases h1
  · cases he
    refine ⟨3, ?_⟩
    rw [hh]
    congr 2
    apply Array.toList_inj.1
    have e0 : cur.toList.length = n * 1 := by simpa using hsz
    rw [List.take_of_length_le (by omega)] at ht
    rw [ht]
    apply List.ext_getElem?
    intro k
    simp [madeCells, Value.cells, Nat.mod_one, ia]
    by_cases hk : k < n <;> simp [hk]
end
end Sedge
end
section
/-
  Contracts: the reference's digits (layer 2): floor, power.
-/
set_option linter.unusedSimpArgs false
set_option linter.unusedVariables false
open Go Go.RowKit Sedge
namespace Go.Proofs.Ytcmggfpcbijcjaa
theorem iinfoN : (Try.prog.info? 3).map (fun i => (i.zero, i.size, i.bytes)) = some (some (Value.int .i64 0), 1, 8) := by kernel_rfl
theorem iundN : Try.prog.underlying 30 = some (.slice 3) := by kernel_rfl
theorem tmod16 (k : Int) : k.tmod 16 = if 0 ≤ k then k % 16 else -((-k) % 16) := by
  split
  · rename_i h; exact Int.tmod_eq_emod_of_nonneg h
  · rename_i h
    have : k.tmod 16 = -((-k).tmod 16) := by rw [Int.neg_tmod, Int.neg_neg]
    rw [this, Int.tmod_eq_emod_of_nonneg (by omega)]
theorem floor_arith (k : Int) : -16 < k.tmod 16 ∧ k.tmod 16 < 16 ∧ (k.tmod 16 + 16).tmod 16 = k % 16 ∧ (k - k % 16).tdiv 16 = k / 16 := by
  have h := tmod16 k
  have hb : -16 < k.tmod 16 ∧ k.tmod 16 < 16 := by rw [h]; split <;> omega
  have e1 : (k.tmod 16 + 16).tmod 16 = (k.tmod 16 + 16) % 16 := Int.tmod_eq_emod_of_nonneg (by omega)
  have e2 : (k - k % 16).tdiv 16 = k / 16 := by
    rw [show k - k % 16 = k / 16 * 16 by omega, Int.mul_tdiv_cancel _ (by decide)]
  refine ⟨hb.1, hb.2, ?_, e2⟩
  rw [e1, h]
  split <;> omega
set_option maxRecDepth 100000 in
set_option maxHeartbeats 1000000 in
theorem floor_any (k : Int) (w : World) (hk : -1000000 ≤ k ∧ k ≤ 1000000) : Calls Try.prog 124 #[.int .i64 k] w (fun e w' => e = .returned (.tuple #[.int .i64 (k / 16), .int .i64 (k % 16)]) ∧ w' = w) := by
  obtain ⟨hb1, hb2, h1, h2⟩ := floor_arith k
  obtain ⟨R, hR⟩ : ∃ R, R = k % 16 := ⟨_, rfl⟩
  obtain ⟨Q, hQ⟩ : ∃ Q, Q = k / 16 := ⟨_, rfl⟩
  rw [← hR] at h1 h2 ⊢
  rw [← hQ] at h2 ⊢
  have a1 : IntKind.i64.wrap (k.tmod 16 + 16) = k.tmod 16 + 16 := IntWalk.i64_in _ (by omega)
  have a2 : IntKind.i64.wrap (k - R) = k - R := IntWalk.i64_in _ (by omega)
  have a3 : IntKind.i64.wrap Q = Q := IntWalk.i64_in _ (by omega)
  clear hR hQ
  go_enter Try.func124, Try.ntmps124
  go_wp2
  refine bodyPost_ret (v := .tuple #[.int .i64 Q, .int .i64 R]) (by simp [results, Try.results124, go_sem, *]) rfl ?_
  exact ⟨rfl, rfl⟩
theorem pow_le16 {j : Nat} (h : j ≤ 16) : 2 ^ j ≤ 65536 := Nat.pow_le_pow_right (n := 2) (by decide) h
set_option maxRecDepth 100000 in
set_option maxHeartbeats 1000000 in
theorem power_any (k : Nat) (w : World) (hk : k ≤ 16) : Calls Try.prog 125 #[.int .i64 k] w (fun e w' => e = .returned (.int .i64 ((2 ^ k : Nat) : Int)) ∧ w' = w) := by
  go_enter Try.func125, Try.ntmps125
  go_wp2
  go_loopw [3, 4] (fun c d wr => ∃ j : Nat, j ≤ k ∧ c = .int .i64 ((2 ^ j : Nat) : Int) ∧ d = .int .i64 j ∧ wr = w) (fun _ d _ => k - (intOf d).toNat)
  case atStart => exact ⟨0, Nat.zero_le _, rfl, rfl, rfl⟩
  case round =>
    obtain ⟨j, hj, rfl, rfl, rfl⟩ := hrel
    have hp := pow_le16 (Nat.le_trans hj hk)
    have hs : 2 ^ (j + 1) = 2 ^ j * 2 := Nat.pow_succ 2 j
    generalize hP : 2 ^ j = P at *
    by_cases hlt : j < k
    · have HS := hid hs
      clear hs
      go_wp2
      go_roundw
      case rel => exact ⟨j + 1, by omega, by rw [HS.out]; go_num, by go_num, by trivial⟩
      case measure => simp [intOf]; omega
    · have e : j = k := by omega
      subst e
      go_wp2
      go_ret
      exact ⟨ret_int (by rw [hP]), rfl⟩
/-- A number of the reference: its places lie from lo up to hi. -/
def DV (w : World) (v : Value) (q : Rat) (lo hi : Int) : Prop :=
  ∃ (neg : Bool) (L : Value) (E : Int) (l : List Nat), v = .agg #[.bool neg, L, .int .i64 E] ∧ NS w L l ∧ Dg l ∧ q = dat neg (dv l) (16 * E) ∧ (dv l = 0 → l = []) ∧ (l = [] → E = 0 ∧ neg = false) ∧ (l ≠ [] → lo ≤ E ∧ E + l.length ≤ hi)
theorem DV.grew {w w' : World} {v : Value} {q : Rat} {lo hi : Int} (h : DV w v q lo hi) (g : Grew w w') : DV w' v q lo hi := by
  obtain ⟨neg, L, E, l, h1, h2, h3⟩ := h
  exact ⟨neg, L, E, l, h1, h2.grew g, h3⟩
theorem DV.mono {w : World} {v : Value} {q : Rat} {lo hi lo' hi' : Int} (h : DV w v q lo hi) (h1 : lo' ≤ lo) (h2 : hi ≤ hi') : DV w v q lo' hi' := by
  obtain ⟨neg, L, E, l, a1, a2, a3, a4, a5, a6, a7⟩ := h
  exact ⟨neg, L, E, l, a1, a2, a3, a4, a5, a6, fun h => by have := a7 h; omega⟩
theorem DV.shape {w : World} {v : Value} {q : Rat} {lo hi : Int} (h : DV w v q lo hi) : ∃ ng a n c E, v = .agg #[.bool ng, .slice a n c, .int .i64 E] := by
  obtain ⟨ng, L, E, l, rfl, hN, _⟩ := h
  obtain ⟨a, c, rfl⟩ := hN.shape
  exact ⟨ng, a, _, c, E, rfl⟩
theorem DV.ext {w : World} {v : Value} {q : Rat} {lo hi : Int} (h : DV w v q lo hi) (o : Array Obj) (n : Nat) : DV (Sedge.ext w o n) v q lo hi := h.grew ⟨_, _, rfl⟩
def lenOf : Value → Nat
  | .slice _ n _ => n
  | _ => 0
def dLen : Value → Nat
  | .agg a => match a[1]? with
    | some L => lenOf L
    | none => 0
  | _ => 0
/-- The block of its digits. -/
def dBlock : Value → Option Nat
  | .agg a => match a[1]? with
    | some L => L.ownBlock
    | none => none
  | _ => none
theorem _root_.Sedge.NS.setCell {w : World} {v : Value} {l : List Nat} (h : NS w v l) {b i : Nat} (hb : ∀ k, v.ownBlock = some k → k ≠ b) (u : Value) : NS (w.setCell ⟨b, i, none⟩ u) v l := by
  obtain ⟨a, cap, hv, h0, hc⟩ := h
  refine ⟨a, cap, hv, h0, fun j hj => ?_⟩
  obtain ⟨blk, o, he, h1⟩ := hc j hj
  refine ⟨blk, o, he, ?_⟩
  rw [← h1]
  have hne : blk ≠ b := hb blk (by rw [hv, he]; rfl)
  unfold World.cell?
  show (match (w.heap.modify b _)[blk]? with | some (.cells cs _ _) => _ | _ => _) = _
  rw [Array.getElem?_modify, if_neg (by omega)]
  rfl
theorem DV.setCell {w : World} {v : Value} {q : Rat} {lo hi : Int} (h : DV w v q lo hi) {b i : Nat} (hb : ∀ k, dBlock v = some k → k ≠ b) (u : Value) : DV (w.setCell ⟨b, i, none⟩ u) v q lo hi := by
  obtain ⟨neg, L, E, l, rfl, h2, h3⟩ := h
  exact ⟨neg, L, E, l, rfl, h2.setCell (fun k hk => hb k hk) u, h3⟩
theorem DV.ext_set {w : World} {v : Value} {q : Rat} {lo hi : Int} {o : Array Obj} {n : Nat} (h : DV (Sedge.ext w o n) v q lo hi) {b i : Nat} (h1 : b < w.heap.size) (hb : ∀ k, dBlock v = some k → k ≠ b) (u : Value) : DV (Sedge.ext (w.setCell ⟨b, i, none⟩ u) o n) v q lo hi := by
  rw [← setCell_ext h1]
  exact h.setCell hb u
theorem DV.ext_set3 {w : World} {v : Value} {q : Rat} {lo hi : Int} {o : Array Obj} {n : Nat} (h : DV (Sedge.ext w o n) v q lo hi) {b i j k : Nat} (h1 : b < w.heap.size) (hb : ∀ k, dBlock v = some k → k ≠ b) (x y z : Value) :
    DV (Sedge.ext (((w.setCell ⟨b, i, none⟩ x).setCell ⟨b, j, none⟩ y).setCell ⟨b, k, none⟩ z) o n) v q lo hi :=
  ((h.ext_set h1 hb x).ext_set (by simpa [size_setCell'] using h1) hb y).ext_set (by simpa [size_setCell'] using h1) hb z
theorem DV.set3 {w : World} {v : Value} {q : Rat} {lo hi : Int} (h : DV w v q lo hi) {b i j k : Nat} (hb : ∀ k, dBlock v = some k → k ≠ b) (x y z : Value) :
    DV (((w.setCell ⟨b, i, none⟩ x).setCell ⟨b, j, none⟩ y).setCell ⟨b, k, none⟩ z) v q lo hi := ((h.setCell hb x).setCell hb y).setCell hb z
theorem grew_set3 {w X : World} (g : Grew w X) {b i j k : Nat} (hb : w.heap.size ≤ b) (x y z : Value) (o : Array Obj) (n : Nat) : Grew w (Sedge.ext (((X.setCell ⟨b, i, none⟩ x).setCell ⟨b, j, none⟩ y).setCell ⟨b, k, none⟩ z) o n) :=
  (((g.setCell (a := ⟨b, i, none⟩) hb x).setCell (a := ⟨b, j, none⟩) hb y).setCell (a := ⟨b, k, none⟩) hb z).ext _ _
theorem dat_shift (neg : Bool) (l : List Nat) (E : Int) : dat neg (dv (0 :: l)) (16 * E) = dat neg (dv l) (16 * (E + 1)) := by
  unfold dat
  have e1 : ((dv (0 :: l) : Nat) : Rat) = p2 16 * (dv l : Rat) := by
    show ((0 + 65536 * dv l : Nat) : Rat) = _
    rw [Nat.zero_add, Rat.natCast_mul, show p2 16 = ((65536 : Nat) : Rat) by decide +kernel]
  have e2 : p2 (16 * (E + 1)) = p2 16 * p2 (16 * E) := by rw [← p2_add]; congr 1; omega
  rw [e1, e2]; grind
end Go.Proofs.Ytcmggfpcbijcjaa
end
section
/-
  Boxes: blocks of cells that may be written; numbers of the reference whose digits lie elsewhere.
-/
set_option linter.unusedSimpArgs false
set_option linter.unusedVariables false
open Go Go.RowKit Sedge
namespace Go.Proofs.Ytcmggfpcbijcjaa
def Box (w : World) (p : Nat) (cs : Array Value) : Prop := ∃ e, w.heap[p]? = some (.cells cs e (0, 0))
section
variable {w w' : World} {p q : Nat} {cs : Array Value}
theorem Box.lt (h : Box w p cs) : p < w.heap.size := by
  obtain ⟨e, h⟩ := h
  exact (Array.getElem?_eq_some_iff.1 h).1
theorem Box.cell (h : Box w p cs) (i : Nat) : w.cell? ⟨p, i, none⟩ = cs[i]? := by
  obtain ⟨e, h⟩ := h
  unfold World.cell?
  simp only [h]
  rfl
theorem Box.frozen (h : Box w p cs) (i : Nat) : w.frozen? ⟨p, i, none⟩ = false := by
  obtain ⟨e, h⟩ := h
  unfold World.frozen?
  simp only [h]
  simp
theorem Box.grew (h : Box w p cs) (g : Grew w w') : Box w' p cs := by
  have hl := h.lt
  obtain ⟨e, h⟩ := h
  exact ⟨e, by rw [g.below.block p hl]; exact h⟩
theorem Box.new (w : World) (cs : Array Value) (e : TypeId) : Box (w.alloc (.cells cs e)) w.heap.size cs := ⟨e, by show (w.heap.push _)[w.heap.size]? = _; simp⟩
theorem Box.new' {w : World} {cs : Array Value} {e : TypeId} {n : Nat} (hn : n = w.heap.size) : Box (w.alloc (.cells cs e)) n cs := by subst hn; exact Box.new w cs e
theorem Box.upd_self (h : Box w p cs) (cs' : Array Value) : Box (upd w p cs') p cs' := by
  obtain ⟨e, h⟩ := h
  exact ⟨e, block_upd h⟩
theorem Box.upd_ne (h : Box w p cs) (hn : p ≠ q) (cs' : Array Value) : Box (upd w q cs') p cs := by
  obtain ⟨e, h⟩ := h
  exact ⟨e, by rw [block_upd_ne hn]; exact h⟩
theorem Box.self (h : Box w p cs) : upd w p cs = w := by
  obtain ⟨e, h1⟩ := h
  unfold upd
  cases w with | mk hp tp dr os' out => ?_
  simp only [World.mk.injEq, true_and, and_true] at *
  apply Array.ext_getElem?
  intro i
  rw [Array.getElem?_modify]
  split
  · rename_i he; subst he; rw [h1]; rfl
  · rfl
theorem Box.set3 (h : Box w p cs) (hs : cs.size = 3) (x y z : Value) : ((w.setCell ⟨p, 0, none⟩ x).setCell ⟨p, 1, none⟩ y).setCell ⟨p, 2, none⟩ z = upd w p #[x, y, z] := by
  have e : w = upd w p cs := h.self.symm
  rw [e, setCell_upd, setCell_upd, setCell_upd, upd_upd]
  congr 1
  match cs, hs with
  | ⟨[a, b, c]⟩, _ => rfl
theorem Box.set3_ext (h : Box w p cs) (hs : cs.size = 3) (x y z : Value) (o : Array Obj) (n : Nat) : Sedge.ext (((w.setCell ⟨p, 0, none⟩ x).setCell ⟨p, 1, none⟩ y).setCell ⟨p, 2, none⟩ z) o n = upd (Sedge.ext w o n) p #[x, y, z] := by
  rw [h.set3 hs, upd_ext h.lt]
end
/-- Its digits lie in none of these blocks. -/
def dNot (v : Value) (S : List Nat) : Prop := ∀ k, dBlock v = some k → dLen v ≠ 0 → k ∉ S
theorem dNot.mono {v : Value} {S T : List Nat} (h : dNot v S) (hs : ∀ k, k ∈ T → k ∈ S) : dNot v T := fun k h1 h2 h3 => h k h1 h2 (hs k h3)
theorem dNot.of_new {v : Value} {S : List Nat} {b : Nat} (h : ∀ k, dBlock v = some k → dLen v ≠ 0 → b ≤ k) (hS : ∀ k, k ∈ S → k < b) : dNot v S := fun k h1 h2 h3 => by
  have := h k h1 h2
  have := hS k h3
  omega
theorem _root_.Sedge.NS.upd_own {w : World} {v : Value} {l : List Nat} (h : NS w v l) {b : Nat} (hn : l ≠ [] → ∀ k, v.ownBlock = some k → k ≠ b) (cs : Array Value) : NS (upd w b cs) v l := by
  by_cases hl : l = []
  · subst hl
    obtain ⟨a, cap, hv, h0, _⟩ := h
    exact ⟨a, cap, hv, h0, fun i hi => by simp at hi⟩
  · refine h.upd_ne (fun a n c e => ?_) cs
    subst e
    exact hn hl _ rfl
theorem DV.upd_own {w : World} {v : Value} {q : Rat} {lo hi : Int} (h : DV w v q lo hi) {b : Nat} (hn : ∀ k, dBlock v = some k → dLen v ≠ 0 → k ≠ b) (cs : Array Value) : DV (upd w b cs) v q lo hi := by
  obtain ⟨ng, Lv, E, dl, rfl, hN, h3⟩ := h
  refine ⟨ng, Lv, E, dl, rfl, hN.upd_own (fun hl k hk => hn k hk ?_) cs, h3⟩
  obtain ⟨sa, sc, rfl⟩ := hN.shape
  show dl.length ≠ 0
  intro h0; exact hl (List.length_eq_zero_iff.1 h0)
theorem DV.upd_not {w : World} {v : Value} {q : Rat} {lo hi : Int} (h : DV w v q lo hi) {b : Nat} {S : List Nat} (hn : dNot v S) (hb : b ∈ S) (cs : Array Value) : DV (upd w b cs) v q lo hi :=
  h.upd_own (fun k h1 h2 e => by subst e; exact hn k h1 h2 hb) cs
end Go.Proofs.Ytcmggfpcbijcjaa
end
section
/-
  Contracts: view.Dense without numbers; (M).Copy and straightedgeref08.Ger.
-/
set_option linter.unusedSimpArgs false
set_option linter.unusedVariables false
open Go Go.RowKit Sedge
namespace Go.Proofs.Ytcmggfpcbijcjaa
section
variable {P : Program} {o : Oper} {a : Act} {w : World} {K : Act → World → Prop} {Q : Exit → Act → World → Prop}
theorem wp_any (h : o.wp P a w K (fun e a w => e = .normal ∧ K a w)) : o.wp P a w K Q := by
  unfold Oper.wp at *
  generalize (execOp a.eval o).run P w = r at *
  cases r with
  | ok n w' =>
    cases n <;> simp only [Oper.upon] at h ⊢ <;> try exact h
    refine h.mono fun e w2 hh => ?_
    cases e with
    | returned v => exact hh
    | panicked c => exact absurd hh.1 (by simp)
    | outgrown => obtain ⟨_, _, h1, _⟩ := hh; cases h1
  | halt k w' =>
    cases k <;> simp only [Oper.upon] at h ⊢ <;> first | exact h | exact absurd h.1 (by simp)
theorem wp_id (h : o.wp P a w K Q) : o.wp P a w K Q := h
theorem wp_app {d : Option Tmp} {s x : Operand} {tt : Array TypeId} {ty : TypeId} {ps : String} {aft : Array Edge} (h : Oper.wp P { dst := d, op := .call { callee := .builtin .append, args := #[s, x], argTypes := tt }, type := ty, pos := ps, after := aft, guard := none } a w K Q) : Oper.wp P { dst := d, op := .call { callee := .builtin .append, args := #[s, x], argTypes := tt }, type := ty, pos := ps, after := aft, guard := none } a w K Q := h
/-- 'append(s, src...)', in a region that draws its order. -/
theorem appendN_K {t e : TypeId} (T : ElemF P t e) {W : World} (hW : Grew W w) {v : Value} {xs : List Nat} (hown : OwnF e w W.heap.size v xs) {D : Value} {ws : List Nat} (hD : FS w D ws)
    (hlen : xs.length + ws.length < 17592186044415) (s x : Operand) (hg : o.guard = none)
    (ho : o.op = .call { callee := .builtin .append, args := #[s, x], argTypes := #[t, t] }) (hs : a.eval s = v) (hx : a.eval x = D)
    (h : ∀ v' oo nn, OwnF e (ext W oo nn) W.heap.size v' (xs ++ ws) → (v ≠ .slice none 0 0 → v' ≠ .slice none 0 0) → K (a.put o.dst v') (ext W oo nn)) : o.wp P a w K Q := by
  have h1 := appendN_f (P := P) (ops := #[]) (Q := fun e a w => e = .normal ∧ K a w) (rest := []) T hW hown hD hlen s x hg ho hs hx (fun v' oo nn h1 h2 => ⟨rfl, h v' oo nn h1 h2⟩)
  unfold wpList at h1
  rw [if_pos (wanted_none hg)] at h1
  rcases h1 with h1 | ⟨_, _, _, h2, _⟩
  · exact wp_any (Oper.wp_mono (fun a w hh => hh.2) h1)
  · cases h2
end
set_option maxRecDepth 100000 in
set_option maxHeartbeats 1000000 in
/-- view.Dense, of sizes within 64, without numbers. -/
theorem dense0_any (r c : Nat) (w : World) (hr : r ≤ 64) (hc : c ≤ 64) (hr1 : 1 ≤ r) (hc1 : 1 ≤ c) :
   Calls Try.prog 69 #[.int .i64 r, .int .i64 c, .slice none 0 0] w (fun e w' => ∃ v, e = .returned (.agg #[v, .int .i64 0, .int .i64 r, .int .i64 c, .int .i64 r]) ∧ WS w' w.heap.size v (List.replicate (r * c) 0) ∧ ∃ o n, w' = ext w o n) := by
  have hm : r * c ≤ 64 * 64 := Nat.mul_le_mul hr hc
  have h2 : IntKind.i64.wrap ((r : Int) * c) = (r : Int) * c := IntWalk.i64_in _ (by rw [← Int.natCast_mul]; omega)
  have h3 : (0 : Int) ≤ (r : Int) * c := by rw [← Int.natCast_mul]; omega
  have d1 : decide ((r : Int) < 0) = false := by simp
  have d2 : decide ((c : Int) < 0) = false := by simp
  have d3 : decide ((64 : Int) < (r : Int)) = false := by simp; omega
  have d4 : decide ((64 : Int) < (c : Int)) = false := by simp; omega
  have d6 : decide ((1 : Int) ≤ (r : Int)) = true := by simp; omega
  have d7 : decide ((0 : Int) ≤ (r : Int) * c) = true := by simpa using h3
  go_enter Try.func69, Try.ntmps69
  refine seq_stop ?_
  go_wp2
  refine stop_go (fun W hW => ?_)
  have s1 : w.heap.size < W.heap.size := by rw [hW]; simp only [World.size_alloc]; omega
  have b1 : ∀ i, W.cell? ⟨w.heap.size, i, none⟩ = (#[.slice none 0 0, .int .i64 0, .int .i64 0, .int .i64 0, .int .i64 0] : Array Value)[i]? := by intro i; rw [hW]; go_simp
  have f1 : ∀ i, W.frozen? ⟨w.heap.size, i, none⟩ = false := by intro i; rw [hW]; go_simp
  have g0 : Grew w W := by rw [hW]; exact (Grew.refl _).alloc _
  clear hW
  go_wp2_with (at_make; refine make_f (L := (r : Int) * (c : Int)) finfo (Grew.refl W) _ _ rfl rfl (r * c) (Int.natCast_mul r c).symm rfl rfl (by omega) ?_; intro oo nn k hk ho; have hF := ho.made)
  refine name_any (fun V hV => ?_)
  have gV : Grew W V := by rw [← hV]; (show Grew _ _; repeat (first | (with_reducible exact Grew.refl _) | (with_reducible assumption) | (with_reducible exact Grew.same_o) | (with_reducible exact Grew.app_o) | (with_reducible refine Grew.ext ?_ _ _) | (with_reducible refine Grew.alloc ?_ _) | ((with_reducible refine Grew.setCell ?_ ?_ _); rotate_left; (focus (dsimp only; first | omega | (simp only [size_ext, World.size_alloc, Array.size_append]; omega)))) | (with_reducible refine Grew.drewN ?_ _) | (with_reducible refine Grew.drew ?_)))
  have sV := gV.below.size
  have k1 : w.heap.size < V.heap.size := by omega
  have k3 : W.heap.size + oo.size < V.heap.size := by rw [← hV]; simp only [World.size_alloc, size_ext]; omega
  have c1 : ∀ i, V.cell? ⟨w.heap.size, i, none⟩ = (#[.slice none 0 0, .int .i64 0, .int .i64 0, .int .i64 0, .int .i64 0] : Array Value)[i]? := fun i => (gV.cell s1).trans (b1 i)
  have z1 : ∀ i, V.frozen? ⟨w.heap.size, i, none⟩ = false := fun i => (gV.frozen s1).trans (f1 i)
  have c3 : ∀ i, V.cell? ⟨W.heap.size + oo.size, i, none⟩ = (#[.slice (some ⟨k, 0, none⟩) (r * c) (r * c), .int .i64 0, .int .i64 r, .int .i64 c, .int .i64 r] : Array Value)[i]? := by subst hV; intro i; go_simp
  have hFV : FW V k (List.replicate (r * c) 0) := by rw [← hV]; (repeat (first | (with_reducible assumption) | ((with_reducible refine FW.ext_set ?_ ?_ ?_ _); rotate_left; (focus (simp only [size_setCell', World.size_alloc, size_ext, size_upd]; omega)); (focus (dsimp only; omega))) | ((with_reducible refine FW.setCell_ne ?_ ?_ _); rotate_left; (focus (dsimp only; omega))) | (with_reducible refine FW.ext ?_ _ _) | (with_reducible refine FW.alloc ?_ _)))
  have q1 : w.heap.size ≠ k := by omega
  clear hV b1 f1 ho
  go_loopw [43] (fun s wr => s = .int .i64 0 ∧ wr = V) (fun s _ => 0)
  case atStart => exact ⟨rfl, rfl⟩
  case round =>
    obtain ⟨rfl, rfl⟩ := hrel
    go_wp2
    refine bodyPost_ret (v := .agg #[.slice (some ⟨k, 0, none⟩) (r * c) (r * c), .int .i64 0, .int .i64 r, .int .i64 c, .int .i64 r]) (by simp [results, Try.results69, go_sem, *]) rfl ?_
    exact ⟨_, rfl, ⟨k, _, by rw [List.length_replicate], by omega, by (repeat (first | (with_reducible assumption) | ((with_reducible refine FW.ext_set ?_ ?_ ?_ _); rotate_left; (focus (simp only [size_setCell', World.size_alloc, size_ext, size_upd]; omega)); (focus (dsimp only; omega))) | ((with_reducible refine FW.setCell_ne ?_ ?_ _); rotate_left; (focus (dsimp only; omega))) | (with_reducible refine FW.ext ?_ _ _) | (with_reducible refine FW.alloc ?_ _))), by rw [List.length_replicate]; omega⟩, by have gwr := g0.trans gV; (show Grew _ _; repeat (first | (with_reducible exact Grew.refl _) | (with_reducible assumption) | (with_reducible exact Grew.same_o) | (with_reducible exact Grew.app_o) | (with_reducible refine Grew.ext ?_ _ _) | (with_reducible refine Grew.alloc ?_ _) | ((with_reducible refine Grew.setCell ?_ ?_ _); rotate_left; (focus (dsimp only; first | omega | (simp only [size_ext, World.size_alloc, Array.size_append]; omega)))) | (with_reducible refine Grew.drewN ?_ _) | (with_reducible refine Grew.drew ?_)))⟩
set_option maxRecDepth 100000 in
set_option maxHeartbeats 1000000 in
/-- (M).Copy. -/
theorem mcopy_any (R C : Int) (A : Value) (T : List Nat) (w : World) (hA : FS w A T) (hl : T.length ≤ 1000000) :
   Calls Try.prog 140 #[.agg #[.int .i64 R, .int .i64 C, A]] w (fun e w' => ∃ v, e = .returned (.agg #[.int .i64 R, .int .i64 C, v]) ∧ WS w' w.heap.size v T ∧ ∃ o n, w' = ext w o n) := by
  obtain ⟨aA, cA, rfl⟩ := hA.shape
  go_enter Try.func140, Try.ntmps140
  refine seq_stop ?_
  go_wp2
  refine stop_go (fun W hW => ?_)
  have s1 : w.heap.size < W.heap.size := by rw [hW]; simp only [World.size_alloc]; omega
  have b1 : ∀ i, W.cell? ⟨w.heap.size, i, none⟩ = (#[.int .i64 R, .int .i64 C, .slice aA T.length cA] : Array Value)[i]? := by intro i; rw [hW]; go_simp
  have f1 : ∀ i, W.frozen? ⟨w.heap.size, i, none⟩ = false := by intro i; rw [hW]; go_simp
  have s2 : w.heap.size + 1 < W.heap.size := by rw [hW]; simp only [World.size_alloc]; omega
  have b2 : ∀ i, W.cell? ⟨w.heap.size + 1, i, none⟩ = (#[.int .i64 0, .int .i64 0, .slice none 0 0] : Array Value)[i]? := by intro i; rw [hW]; go_simp
  have f2 : ∀ i, W.frozen? ⟨w.heap.size + 1, i, none⟩ = false := by intro i; rw [hW]; go_simp
  have g0 : Grew w W := by rw [hW]; exact ((Grew.refl _).alloc _).alloc _
  clear hW
  have hAW : FS W (.slice aA T.length cA) T := hA.grew g0
  go_wp2
  refine wp_region_R (Grew W) [9] [(3,0), (0,1), (3,2), (0,3), (3,5), (0,6), (1,4), (1,7), (0,8), (2,9)] (by kernel_rfl) (by kernel_rfl) (fun _ _ _ _ h _ => h) (by first | exact ⟨_, _, ext_drew⟩ | exact ⟨_, _, drew_ext0⟩ | (show Grew _ _; repeat (first | (with_reducible exact Grew.refl _) | (with_reducible assumption) | (with_reducible exact Grew.same_o) | (with_reducible exact Grew.app_o) | (with_reducible refine Grew.ext ?_ _ _) | (with_reducible refine Grew.alloc ?_ _) | ((with_reducible refine Grew.setCell ?_ ?_ _); rotate_left; (focus (dsimp only; first | omega | (simp only [size_ext, World.size_alloc, Array.size_append]; omega)))) | (with_reducible refine Grew.drewN ?_ _) | (with_reducible refine Grew.drew ?_)))) ?_
  refine name_any (fun W2 hW2 => ?_)
  have g2 : Grew W W2 := by rw [← hW2]; (show Grew _ _; repeat (first | (with_reducible exact Grew.refl _) | (with_reducible assumption) | (with_reducible exact Grew.same_o) | (with_reducible exact Grew.app_o) | (with_reducible refine Grew.ext ?_ _ _) | (with_reducible refine Grew.alloc ?_ _) | ((with_reducible refine Grew.setCell ?_ ?_ _); rotate_left; (focus (dsimp only; first | omega | (simp only [size_ext, World.size_alloc, Array.size_append]; omega)))) | (with_reducible refine Grew.drewN ?_ _) | (with_reducible refine Grew.drew ?_)))
  have hAW2 := hAW.grew g2
  have gww : Grew w W2 := g0.trans g2
  have zW := g0.below.size
  have z2 := g2.below.size
  have b12 := fun i => (g2.cell s1).trans (b1 i)
  have b22 := fun i => (g2.cell s2).trans (b2 i)
  have f22 := fun i => (g2.frozen s2).trans (f2 i)
  have s12 : w.heap.size < W2.heap.size := by omega
  have s22 : w.heap.size + 1 < W2.heap.size := by omega
  clear hW2
  go_wp2_with (first | ((with_reducible refine wpR_id ?_); refine wpR_do rfl rfl (fun K hK => ?_); (with_reducible refine wp_app ?_); refine appendN_K finfo (Grew.refl W2 |>.alloc _) (OwnF.empty rfl (Nat.le_refl _)) (FS.alloc hAW2 _) (by simp; omega) _ _ rfl rfl rfl rfl ?_; intro v oo nn ho hn; obtain ⟨g, cap, rfl, hg, hF, hL⟩ := ho.ws (hn notnil) (by simp; omega); simp only [List.nil_append] at hF hL) | ((with_reducible refine wpR_id ?_); first | (refine wpR_take (v := ?_) rfl rfl ?_ ?_; rotate_left; (focus (rintro w' ⟨o', n', rfl⟩; go_simp; try with_reducible rfl)); simp only [Act.put, List.setIfInBounds_toArray, List.set_cons_zero, List.set_cons_succ]) | (refine wpR_pure (v := ?_) rfl rfl ?_ ?_; rotate_left; (focus (intro w'; go_simp; try with_reducible rfl)); simp only [Act.put, List.setIfInBounds_toArray, List.set_cons_zero, List.set_cons_succ]) | (refine wpR_takeG (v := ?_) rfl rfl rfl rfl rfl ?_ ?_; rotate_left; (focus (rintro w' ⟨o', n', rfl⟩; go_simp; try with_reducible rfl)); simp only [Act.put, List.setIfInBounds_toArray, List.set_cons_zero, List.set_cons_succ]) | (refine wpR_skip rfl rfl rfl rfl rfl rfl ?_; simp only [Act.put, List.setIfInBounds_toArray, List.set_cons_zero, List.set_cons_succ]) | (refine wpR_skipU rfl rfl rfl rfl rfl ?_; simp only [Act.put, List.setIfInBounds_toArray, List.set_cons_zero, List.set_cons_succ]) | (refine wpR_do rfl rfl (fun K hK => ?_)) | (refine wpR_doG rfl rfl rfl rfl rfl (fun K hK => ?_)) | (refine wpR_last rfl rfl (fun K hK => ?_)) | (refine wpR_nil ?_)) | ((with_reducible refine wpR_go ?_ ?_); (focus (show Grew _ _; repeat (first | (with_reducible exact Grew.refl _) | (with_reducible assumption) | (with_reducible exact Grew.same_o) | (with_reducible exact Grew.app_o) | (with_reducible refine Grew.ext ?_ _ _) | (with_reducible refine Grew.alloc ?_ _) | ((with_reducible refine Grew.setCell ?_ ?_ _); rotate_left; (focus (dsimp only; first | omega | (simp only [size_ext, World.size_alloc, Array.size_append]; omega)))) | (with_reducible refine Grew.drewN ?_ _) | (with_reducible refine Grew.drew ?_))))) | ((with_reducible refine upon_id ?_); refine upon_fop rfl (by assumption) (by assumption) ?_; intro rr nn hr))
  refine bodyPost_ret (v := .agg #[.int .i64 R, .int .i64 C, .slice (some ⟨g, 0, none⟩) T.length cap]) (by simp [results, Try.results140, go_sem, *]) rfl ?_
  exact ⟨_, rfl, ⟨g, cap, rfl, by omega, by (repeat (first | (with_reducible assumption) | ((with_reducible refine FW.ext_set ?_ ?_ ?_ _); rotate_left; (focus (simp only [size_setCell', World.size_alloc, size_ext, size_upd]; omega)); (focus (dsimp only; omega))) | ((with_reducible refine FW.setCell_ne ?_ ?_ _); rotate_left; (focus (dsimp only; omega))) | (with_reducible refine FW.ext ?_ _ _) | (with_reducible refine FW.alloc ?_ _))), hL⟩, by (show Grew _ _; repeat (first | (with_reducible exact Grew.refl _) | (with_reducible assumption) | (with_reducible exact Grew.same_o) | (with_reducible exact Grew.app_o) | (with_reducible refine Grew.ext ?_ _ _) | (with_reducible refine Grew.alloc ?_ _) | ((with_reducible refine Grew.setCell ?_ ?_ _); rotate_left; (focus (dsimp only; first | omega | (simp only [size_ext, World.size_alloc, Array.size_append]; omega)))) | (with_reducible refine Grew.drewN ?_ _) | (with_reducible refine Grew.drew ?_)))⟩
/-- Row by row: what is done up to (i, j). -/
def stepR (F s : Nat → Nat → Nat) (i j : Nat) (r c : Nat) : Nat := if r < i ∨ (r = i ∧ c < j) then F r c else s r c
def rgerF (α : Nat) (lx ly : List Nat) (M : Nat → Nat → Nat) (i j : Nat) : Nat := fadd (M i j) (fmul (fmul α (ly.getD j 0)) (lx.getD i 0))
set_option maxRecDepth 100000 in
set_option maxHeartbeats 4000000 in
/-- straightedgeref08.Ger. -/
theorem rger_any (a α R C : Nat) (T lx ly : List Nat) (M : Nat → Nat → Nat) (A X Y : Value) (w : World) (ha : IsF a α) (hA : FS w A T) (hX : FS w X lx) (hY : FS w Y ly) (hx : lx.length = R) (hy : ly.length = C) (hT : T.length = R * C) (hM : Hold (fun i j => i * C + j) R C T T M) (hR : R ≤ 1000) (hC : C ≤ 1000) :
   Calls Try.prog 60 #[.float .f64 a, X, Y, .agg #[.int .i64 R, .int .i64 C, A]] w (fun e w' => ∃ v t, e = .returned (.agg #[.int .i64 R, .int .i64 C, v]) ∧ WS w' w.heap.size v t ∧ Hold (fun i j => i * C + j) R C T t (rgerF α lx ly M) ∧ ∃ o n, w' = ext w o n) := by
  have hRC : R * C ≤ 1000 * 1000 := Nat.mul_le_mul hR hC
  have hpl : Places (fun i j => i * C + j) R C T.length := by rw [hT]; exact tabPlaces R C
  have HT := hid hT
  have Hx := hid hx
  have Hy := hid hy
  obtain ⟨aA, cA, rfl⟩ := hA.shape
  obtain ⟨aX, cX, rfl⟩ := hX.shape
  obtain ⟨aY, cY, rfl⟩ := hY.shape
  have hat : ∀ i j : Nat, i < R → j < C → ∀ w', FS w' (.slice aA T.length cA) T → Calls Try.prog 72 #[.agg #[.int .i64 R, .int .i64 C, .slice aA T.length cA], .int .i64 i, .int .i64 j] w' (fun e w2 => ∃ b, e = .returned (.float .f64 b) ∧ IsF b (M i j) ∧ ∃ o n, w2 = ext w' o n) := fun i j hi hj w' h => by
    have := rat_any R C i j (.slice aA T.length cA) T w' h hR hC (by omega) (by omega) (by rw [hT]; exact at_lt hi hj)
    rw [hM.get i j hi hj] at this; exact this
  have hcp : ∀ w', FS w' (.slice aA T.length cA) T → Calls Try.prog 140 #[.agg #[.int .i64 R, .int .i64 C, .slice aA T.length cA]] w' (fun e w2 => ∃ v, e = .returned (.agg #[.int .i64 R, .int .i64 C, v]) ∧ WS w2 w'.heap.size v T ∧ ∃ o n, w2 = ext w' o n) := fun w' h => mcopy_any R C _ T w' h (by omega)
  clear hT hx hy
  go_enter Try.func60, Try.ntmps60
  refine seq_stop ?_
  go_wp2
  refine stop_go (fun W hW => ?_)
  have s1 : w.heap.size < W.heap.size := by rw [hW]; simp only [World.size_alloc]; omega
  have b1 : ∀ i, W.cell? ⟨w.heap.size, i, none⟩ = (#[.int .i64 R, .int .i64 C, .slice aA T.length cA] : Array Value)[i]? := by intro i; rw [hW]; go_simp
  have f1 : ∀ i, W.frozen? ⟨w.heap.size, i, none⟩ = false := by intro i; rw [hW]; go_simp
  have s2 : w.heap.size + 1 < W.heap.size := by rw [hW]; simp only [World.size_alloc]; omega
  have b2 : ∀ i, W.cell? ⟨w.heap.size + 1, i, none⟩ = (#[.int .i64 0, .int .i64 0, .slice none 0 0] : Array Value)[i]? := by intro i; rw [hW]; go_simp
  have f2 : ∀ i, W.frozen? ⟨w.heap.size + 1, i, none⟩ = false := by intro i; rw [hW]; go_simp
  have g0 : Grew w W := by rw [hW]; exact ((Grew.refl _).alloc _).alloc _
  clear hW
  have hAW := hA.grew g0
  have hXW := hX.grew g0
  have hYW := hY.grew g0
  go_wp2_with (first | (go_at_call 140; ((with_reducible refine (hcp _ hAW).mono ?_); rintro e w1 ⟨v, rfl, ⟨g, cap, rfl, hg, hF, hgl⟩, oc, nc, rfl⟩)))
  refine name_any (fun V hV => ?_)
  have gV : Grew W V := by rw [← hV]; (show Grew _ _; repeat (first | (with_reducible exact Grew.refl _) | (with_reducible assumption) | (with_reducible exact Grew.same_o) | (with_reducible exact Grew.app_o) | (with_reducible refine Grew.ext ?_ _ _) | (with_reducible refine Grew.alloc ?_ _) | ((with_reducible refine Grew.setCell ?_ ?_ _); rotate_left; (focus (dsimp only; first | omega | (simp only [size_ext, World.size_alloc, Array.size_append]; omega)))) | (with_reducible refine Grew.drewN ?_ _) | (with_reducible refine Grew.drew ?_)))
  have zw := g0.below.size
  have zV := gV.below.size
  have hFV : FW V g T := by rw [← hV]; (repeat (first | (with_reducible assumption) | ((with_reducible refine FW.ext_set ?_ ?_ ?_ _); rotate_left; (focus (simp only [size_setCell', World.size_alloc, size_ext, size_upd]; omega)); (focus (dsimp only; omega))) | ((with_reducible refine FW.setCell_ne ?_ ?_ _); rotate_left; (focus (dsimp only; omega))) | (with_reducible refine FW.ext ?_ _ _) | (with_reducible refine FW.alloc ?_ _)))
  have cT : ∀ i, V.cell? ⟨W.heap.size + oc.size, i, none⟩ = (#[.int .i64 R, .int .i64 C, .slice (some ⟨g, 0, none⟩) T.length cap] : Array Value)[i]? := by subst hV; intro i; go_simp
  have kT : W.heap.size + oc.size < V.heap.size := by rw [← hV]; simp only [World.size_alloc, size_ext]; omega
  have ngT : W.heap.size + oc.size ≠ g := by have := hF.lt; simp only [size_ext] at this; omega
  obtain ⟨U, hU⟩ : ∃ U, W.heap.size + oc.size = U := ⟨_, rfl⟩
  have zU : W.heap.size ≤ U := by omega
  rw [hU] at cT kT ngT
  simp only [hU]
  have hG : ∀ k ∈ [g], W.heap.size ≤ k := by intro k hk; simp at hk; omega
  have hDu := But.fs gV hAW hG
  have hXu := But.fs gV hXW hG
  have hYu := But.fs gV hYW hG
  have c1 := But.boxW gV s1 b1 hG
  have c2 := But.boxW gV s2 b2 hG
  have z2 : ∀ w', But V [g] w' → ∀ i, w'.frozen? ⟨w.heap.size + 1, i, none⟩ = false := fun w' hb i => by
    have h1 := hb.block (w.heap.size + 1) (by omega) (by simp; omega)
    have h2 := (gV.frozen s2).trans (f2 i)
    unfold World.frozen? at h2 ⊢; simp only [h1] at h2 ⊢; exact h2
  have cU : ∀ w', But V [g] w' → ∀ i, w'.cell? ⟨U, i, none⟩ = (#[.int .i64 R, .int .i64 C, .slice (some ⟨g, 0, none⟩) T.length cap] : Array Value)[i]? := fun w' h i => (h.cell kT (by simpa using ngT)).trans (cT i)
  have kV : w.heap.size < V.heap.size := by omega
  have kV2 : w.heap.size + 1 < V.heap.size := by omega
  clear hV hU cT b1 b2 f1 f2 hF hcp
  go_loopw [10] (fun c wr => ∃ (i : Nat) (L : List Nat), i ≤ R ∧ c = .int .i64 i ∧ But V [g] wr ∧ FW wr g L ∧ Hold (fun i j => i * C + j) R C T L (stepR (rgerF α lx ly M) M i 0)) (fun c _ => R - (intOf c).toNat)
  case atStart => exact ⟨0, T, Nat.zero_le _, rfl, But.refl _ _, hFV, hM.congr fun i j _ _ => by simp [stepR]⟩
  case round =>
    obtain ⟨i, L, hi, rfl, hB, hL, hH⟩ := hrel
    have t1 := c1 _ hB
    have sB := hB.size
    have x1 : w.heap.size < wr.heap.size := by omega
    by_cases hlt : (i : Int) < R
    · have hiR : i < R := by omega
      go_wp2
      go_loopw [11] (fun c wr => ∃ (j : Nat) (L : List Nat), j ≤ C ∧ c = .int .i64 j ∧ But V [g] wr ∧ FW wr g L ∧ Hold (fun i j => i * C + j) R C T L (stepR (rgerF α lx ly M) M i j)) (fun c _ => C - (intOf c).toNat)
      case atStart => exact ⟨0, L, Nat.zero_le _, rfl, hB, hL, hH⟩
      case round =>
        obtain ⟨j, L2, hj, rfl, hB2, hL2, hH2⟩ := hrel
        have t1 := c1 _ hB2
        have tU := cU _ hB2
        have sB := hB2.size
        have x1 : w.heap.size < wr.heap.size := by omega
        have xU : U < wr.heap.size := by omega
        by_cases hl2 : (j : Int) < C
        · have hjC : j < C := by omega
          have hatij := hat i j hiR hjC
          have hgd := hH2.get i j hiR hjC
          have hset : ∀ w' r z, FW w' g L2 → IsF r z → Calls Try.prog 134 #[.agg #[.int .i64 R, .int .i64 C, .slice (some ⟨g, 0, none⟩) T.length cap], .int .i64 i, .int .i64 j, .float .f64 r] w' (fun e w2 => e = .returned (.tuple #[]) ∧ Wrote w' w2 g (L2.set (i * C + j) z)) := fun w' r z h1 h2 =>
            rset_any R C i j g cap T.length r z L2 w' h1 h2 hH2.len.symm hR hC (by omega) (by omega) (by rw [hH2.len, HT.out]; exact at_lt hiR hjC)
          obtain ⟨bx, ox, hax, hkx, hcx⟩ := hXW.at.2 (by rw [Hx.out]; omega)
          obtain ⟨rx, hrx, hfx⟩ := hcx i (by rw [Hx.out]; omega)
          obtain ⟨bz, oz, haz, hkz, hcz⟩ := hYW.at.2 (by rw [Hy.out]; omega)
          obtain ⟨ry, hry, hfy⟩ := hcz j (by rw [Hy.out]; omega)
          subst hax haz
          have lx1 : (i : Int) < lx.length := by rw [Hx.out]; omega
          have ly1 : (j : Int) < ly.length := by rw [Hy.out]; omega
          have crx : ∀ w', But V [g] w' → w'.cell? ⟨bx, ox + i, none⟩ = some (.float .f64 rx) := fun w' h => (h.cell (by omega) (by simp; omega)).trans ((gV.cell hkx).trans hrx)
          have cry : ∀ w', But V [g] w' → w'.cell? ⟨bz, oz + j, none⟩ = some (.float .f64 ry) := fun w' h => (h.cell (by omega) (by simp; omega)).trans ((gV.cell hkz).trans hry)
          clear hcx hcz hrx hry
          go_wp2
          refine wp_region_R (But V [g]) [] [(0,0), (0,1), (0,2), (0,3), (0,4), (0,5), (0,7), (0,8), (0,9), (0,10), (0,11), (0,13), (0,14), (0,15), (0,16), (1,6), (1,12), (1,17), (1,18), (1,19)] (by kernel_rfl) (by kernel_rfl) (fun _ _ _ _ h _ => h) (hB2.grew ((Grew.refl _).drew)) ?_
          refine name_any (fun V6 hV6 => ?_)
          have hg6 : Grew wr V6 := by rw [← hV6]; (show Grew _ _; repeat (first | (with_reducible exact Grew.refl _) | (with_reducible assumption) | (with_reducible exact Grew.same_o) | (with_reducible exact Grew.app_o) | (with_reducible refine Grew.ext ?_ _ _) | (with_reducible refine Grew.alloc ?_ _) | ((with_reducible refine Grew.setCell ?_ ?_ _); rotate_left; (focus (dsimp only; first | omega | (simp only [size_ext, World.size_alloc, Array.size_append]; omega)))) | (with_reducible refine Grew.drewN ?_ _) | (with_reducible refine Grew.drew ?_)))
          have B6 := hB2.grew hg6
          have F6 := hL2.grew hg6
          clear hV6 hg6
          go_wp2_with (first | ((with_reducible refine wpR_id ?_); first | (refine wpR_take (v := ?_) rfl rfl ?_ ?_; rotate_left; (focus (intro w' hw'; go_simp; try with_reducible rfl)); simp only [Act.put, List.setIfInBounds_toArray, List.set_cons_zero, List.set_cons_succ]) | (refine wpR_pure (v := ?_) rfl rfl ?_ ?_; rotate_left; (focus (intro w'; go_simp; try with_reducible rfl)); simp only [Act.put, List.setIfInBounds_toArray, List.set_cons_zero, List.set_cons_succ]) | (refine wpR_takeG (v := ?_) rfl rfl rfl rfl rfl ?_ ?_; rotate_left; (focus (intro w' hw'; go_simp; try with_reducible rfl)); simp only [Act.put, List.setIfInBounds_toArray, List.set_cons_zero, List.set_cons_succ]) | (refine wpR_skip rfl rfl rfl rfl rfl rfl ?_; simp only [Act.put, List.setIfInBounds_toArray, List.set_cons_zero, List.set_cons_succ]) | (refine wpR_skipU rfl rfl rfl rfl rfl ?_; simp only [Act.put, List.setIfInBounds_toArray, List.set_cons_zero, List.set_cons_succ]) | (refine wpR_do rfl rfl (fun K hK => ?_)) | (refine wpR_doG rfl rfl rfl rfl rfl (fun K hK => ?_)) | (refine wpR_last rfl rfl (fun K hK => ?_)) | (refine wpR_nil ?_)) | ((with_reducible refine wpR_go ?_ ?_); (focus (with_reducible assumption))) | ((with_reducible refine upon_id ?_); refine upon_fop rfl (by assumption) (by assumption) ?_; intro rr nn hr) | (go_at_call 72; ((with_reducible refine (hatij _ (hDu _ (by assumption))).mono ?_); rintro e w1 ⟨r1, rfl, hr1, hw1⟩; (have B7 := B6.grew hw1; have F7 := F6.grew hw1))) | (go_at_call 141; ((with_reducible refine (times_any a ry α _ _ ha hfy).mono ?_); rintro e w1 ⟨r2, rfl, hr2, hw2⟩; (have B8 := B7.grew hw2; have F8 := F7.grew hw2))) | (go_at_call 141; ((with_reducible refine (times_any r2 rx _ _ _ hr2 hfx).mono ?_); rintro e w1 ⟨r3, rfl, hr3, hw3⟩; (have B9 := B8.grew hw3; have F9 := F8.grew hw3))) | (go_at_call 36; ((with_reducible refine (plus_any r1 r3 _ _ _ hr1 hr3).mono ?_); rintro e w1 ⟨r4, rfl, hr4, hw4⟩; (have B10 := B9.grew hw4; have F10 := F9.grew hw4))) | (go_at_call 134; ((with_reducible refine (hset _ r4 _ F10 hr4).mono ?_); rintro e w1 ⟨rfl, hw5⟩; (have B11 := B10.wrote hw5 (.inl (by simp))))))
          go_roundw
          case rel =>
            refine ⟨j + 1, _, by omega, by go_num, B11, hw5.fw F10, (hH2.set hpl hiR hjC).congr fun r c hr hc => ?_⟩
            unfold stepR
            by_cases hrc : r = i ∧ c = j
            · obtain ⟨rfl, rfl⟩ := hrc
              simp [rgerF]
            · rw [if_neg hrc]
              by_cases h2 : r < i ∨ (r = i ∧ c < j)
              · rw [if_pos h2, if_pos (by omega)]
              · rw [if_neg h2, if_neg (by omega)]
          case measure => simp [intOf]; omega
        · have e : j = C := by omega
          go_wp2
          go_roundw
          case rel =>
            refine ⟨i + 1, L2, by omega, by go_num, hB2, hL2, hH2.congr fun r c hr hc => ?_⟩
            unfold stepR
            by_cases h2 : r < i ∨ (r = i ∧ c < j)
            · rw [if_pos h2, if_pos (by omega)]
            · rw [if_neg h2, if_neg (by omega)]
          case measure => simp [intOf]; omega
    · have e : i = R := by omega
      have t2 := c2 _ hB
      have tU := cU _ hB
      have zz := z2 _ hB
      have x2 : w.heap.size + 1 < wr.heap.size := by omega
      have xU : U < wr.heap.size := by omega
      go_wp2
      refine bodyPost_ret (v := .agg #[.int .i64 R, .int .i64 C, .slice (some ⟨g, 0, none⟩) T.length cap]) (by simp [results, Try.results60, go_sem, *]) rfl ?_
      have gwr : Grew w wr := g0.trans (hB.grew0 gV hG)
      have hlL : L.length = T.length := hH.len
      refine ⟨_, rfl, L, ⟨g, cap, by rw [hlL], by omega, by (repeat (first | (with_reducible assumption) | ((with_reducible refine FW.ext_set ?_ ?_ ?_ _); rotate_left; (focus (simp only [size_setCell', World.size_alloc, size_ext, size_upd]; omega)); (focus (dsimp only; omega))) | ((with_reducible refine FW.setCell_ne ?_ ?_ _); rotate_left; (focus (dsimp only; omega))) | (with_reducible refine FW.ext ?_ _ _) | (with_reducible refine FW.alloc ?_ _))), by rw [hlL]; omega⟩, hH.congr fun r c hr hc => ?_, by (show Grew _ _; repeat (first | (with_reducible exact Grew.refl _) | (with_reducible assumption) | (with_reducible exact Grew.same_o) | (with_reducible exact Grew.app_o) | (with_reducible refine Grew.ext ?_ _ _) | (with_reducible refine Grew.alloc ?_ _) | ((with_reducible refine Grew.setCell ?_ ?_ _); rotate_left; (focus (dsimp only; first | omega | (simp only [size_ext, World.size_alloc, Array.size_append]; omega)))) | (with_reducible refine Grew.drewN ?_ _) | (with_reducible refine Grew.drew ?_)))⟩
      unfold stepR
      rw [if_pos (by omega)]
end Go.Proofs.Ytcmggfpcbijcjaa
end
section
/-
  Appends, and what stays beside them.
-/
set_option linter.unusedSimpArgs false
set_option linter.unusedVariables false
namespace Sedge
open Go Go.RowKit
section
variable {P : Program} {ops : Array Oper} {rest : List Oper} {o : Oper} {a : Act} {Q : Exit → Act → World → Prop}
theorem append1_k {t e e' : TypeId} {z0 : Value} (und : P.underlying t = some (.slice e)) (info : (P.info? e).map (fun i => (i.zero, i.size, i.bytes)) = some (some z0, 1, 8)) (hz0 : z0.cells.size = 1)
    {W w : World} (hW : Grew W w) {v y : Value} {xs : List Value} (hown : w.ownsRow W.heap.size e 1 v xs.length xs) (hy : y.oneCell' = true)
    (hlen : xs.length < 17592186044415) (s x : Operand) (hg : o.guard = none)
    (ho : o.op = .call { callee := .builtin .append, args := #[s, x], argTypes := #[t, t] }) (hs : a.eval s = v) {k : Nat} (hk : k = w.heap.size) (hx : a.eval x = .slice (some ⟨k, 0, none⟩) 1 1)
    (h : ∀ v' w', Grew W w' → w.heap.size ≤ w'.heap.size → w'.ownsRow W.heap.size e 1 v' (xs.length + 1) (xs ++ [y]) →
      (∀ k, k < w.heap.size → v.ownBlock ≠ some k → w'.heap[k]? = w.heap[k]?) → (∀ k, v'.ownBlock = some k → v.ownBlock = some k ∨ w.heap.size ≤ k) → wpList P ops Q rest (a.put o.dst v') w') :
    wpList P ops Q (o :: rest) a (w.alloc (.cells #[y] e')) := by
  subst hk
  obtain ⟨i0, hi, hz⟩ := Option.map_eq_some_iff.1 info
  simp only [Prod.mk.injEq] at hz
  obtain ⟨hz1, hz2, hz3⟩ := hz
  have hgA : Grew w (w.alloc (.cells #[y] e')) := (Grew.refl w).alloc _
  have keep : ∀ e2 u n2 ys (w' : World), w.ownsRow W.heap.size e2 1 u n2 ys → (∀ k, u.ownBlock = some k → w'.heap[k]? = w.heap[k]?) → w'.ownsRow W.heap.size e2 1 u n2 ys := fun e2 u n2 ys w' hu hk => by
    obtain ⟨h1, h2⟩ := hu
    refine ⟨h1, ?_⟩
    rcases h2 with h2 | ⟨g, cap, cur, rfl, hB, hh, r⟩
    · exact .inl h2
    · exact .inr ⟨g, cap, cur, rfl, hB, by rw [hk g rfl]; exact hh, r⟩
  have hown' := keep _ _ _ _ (w.alloc (.cells #[y] e')) hown (fun k hk => hgA.below.block k (hown.lt k hk).2)
  refine wpList_append_own_at _ hg s x t ho W.heap.size e i0 z0 1 8 und hi hz1 hz2 hz3 hz0 (by decide) v xs.length xs hs hown' ⟨w.heap.size, 0, none⟩ 1 1 [y] hx rfl ?_ ?_ ?_ ?_ ?_ ?_
  · intro j u hj
    match j, hj with
    | 0, hj =>
      simp at hj; subst hj
      have e1 : (⟨w.heap.size, 0, none⟩ : Addr).add 0 = ⟨w.heap.size, 0, none⟩ := by simp [Addr.add]
      rw [e1, World.cell?_alloc_new]; rfl
  · intro u hu; simp at hu; subst hu; exact hy
  · simp [maxLen]; omega
  · omega
  · have := hW.below.size; simp; omega
  · intro v' w' ho2 hgr hnn hloc
    have hG := grew_grown (hW.alloc (.cells #[y] e')) hgr (fun k hk => (hown.lt k hk).1)
    refine h v' w' hG (Nat.le_trans hgA.below.size hgr.size) ho2 (fun k hk hne => ?_) (fun k hk => ?_)
    · exact (hgr.block k (Nat.lt_of_lt_of_le hk hgA.below.size) (fun e => hne e.symm)).trans (hgA.below.block k hk)
    · rcases hloc with h1 | h1
      · rw [h1] at hk; exact .inl hk
      · rw [h1] at hk; simp at hk; right; omega
/-- 'append' of one float, and what stays. -/
theorem append1_fk {t e e' : TypeId} (T : ElemF P t e) {W w : World} (hW : Grew W w) {v : Value} {xs : List Nat} (hown : OwnF e w W.heap.size v xs) {b y : Nat} (hy : IsF b y)
    (hlen : xs.length < 17592186044415) (s x : Operand) (hg : o.guard = none)
    (ho : o.op = .call { callee := .builtin .append, args := #[s, x], argTypes := #[t, t] }) (hs : a.eval s = v) {k : Nat} (hk : k = w.heap.size) (hx : a.eval x = .slice (some ⟨k, 0, none⟩) 1 1)
    (h : ∀ v' w', Grew W w' → w.heap.size ≤ w'.heap.size → OwnF e w' W.heap.size v' (xs ++ [y]) →
      (∀ k, k < w.heap.size → v.ownBlock ≠ some k → w'.heap[k]? = w.heap[k]?) → (∀ k, v'.ownBlock = some k → v.ownBlock = some k ∨ w.heap.size ≤ k) → wpList P ops Q rest (a.put o.dst v') w') :
    wpList P ops Q (o :: rest) a (w.alloc (.cells #[.float .f64 b] e')) := by
  obtain ⟨bs, ho1, rfl, hb⟩ := hown
  refine append1_k T.und T.info rfl hW (xs := bs.map (Value.float .f64)) (by simpa using ho1) rfl (by simpa using hlen) s x hg ho hs hk hx ?_
  intro v' w' h1 h2 h3 h4 h5
  refine h v' w' h1 h2 ⟨bs ++ [b], by simpa using h3, by simp [hy.2], fun z hz => ?_⟩ h4 h5
  rcases List.mem_append.1 hz with hz | hz
  · exact hb z hz
  · simp at hz; subst hz; exact hy.1
end
end Sedge
namespace Go.Proofs.Ytcmggfpcbijcjaa
open Go Go.RowKit Sedge
section
variable {P : Program} {o : Oper} {a : Act} {w : World} {K : Act → World → Prop} {Q : Exit → Act → World → Prop}
theorem wp_mk {d : Option Tmp} {t : TypeId} {l c : Operand} {ty : TypeId} {ps : String} {aft : Array Edge} (h : Oper.wp P { dst := d, op := .makeSlice t l c, type := ty, pos := ps, after := aft, guard := none } a w K Q) : Oper.wp P { dst := d, op := .makeSlice t l c, type := ty, pos := ps, after := aft, guard := none } a w K Q := h
/-- 'make([]float64, n)', in a region that draws its order. -/
theorem make_K {t e : TypeId} (T : ElemF P t e) {W : World} (hW : Grew W w) (l c : Operand) (hg : o.guard = none) (hop : o.op = Op.makeSlice t l c) (n : Nat) {L : Int} (hL : L = n) (hl : a.eval l = .int .i64 L) (hc : a.eval c = .int .i64 L)
    (hn : n ≤ 17592186044415)
    (h : ∀ oo nn k, W.heap.size ≤ k → OwnF e (ext W oo nn) W.heap.size (.slice (some ⟨k, 0, none⟩) n n) (List.replicate n 0) → K (a.put o.dst (.slice (some ⟨k, 0, none⟩) n n)) (ext W oo nn)) : o.wp P a w K Q := by
  have h1 := make_f (P := P) (ops := #[]) (Q := fun e a w => e = .normal ∧ K a w) (rest := []) T hW l c hg hop n hL hl hc hn (fun oo nn k h1 h2 => ⟨rfl, h oo nn k h1 h2⟩)
  unfold wpList at h1
  rw [if_pos (wanted_none hg)] at h1
  rcases h1 with h1 | ⟨_, _, _, h2, _⟩
  · exact wp_any (Oper.wp_mono (fun a w hh => hh.2) h1)
  · cases h2
end
end Go.Proofs.Ytcmggfpcbijcjaa
end
section
/-
  The example of layer 4.
-/
set_option linter.unusedSimpArgs false
set_option linter.unusedVariables false
open Go Go.RowKit Sedge
namespace Go.Proofs.Ytcmggfpcbijcjaa
def M4 : List Nat := [4607182418800017408, 4611686018427387904, 4613937818241073152, 4616189618054758400]
def M4d : List Nat := [4607182418800017408, 4613937818241073152, 4611686018427387904, 4616189618054758400]
def M4r : List Nat := [4613937818241073152, 4607182418800017408, 4616189618054758400, 4611686018427387904]
theorem dense_4 (aL : Option Addr) (w : World) (hL : FS w (.slice aL 4 4) M4) :
   Calls Try.prog 69 #[.int .i64 2, .int .i64 2, .slice aL 4 4] w (fun e w' => ∃ v, e = .returned (.agg #[v, .int .i64 0, .int .i64 2, .int .i64 2, .int .i64 2]) ∧ WS w' w.heap.size v M4d ∧ ∃ o n, w' = ext w o n) := by
  have h := dense_any 2 2 aL M4 w hL (by decide) (by decide) (by decide) (by decide) rfl
  have e : denseL 2 2 M4 = M4d := by decide +kernel
  rw [e] at h
  exact h
theorem rows_4 (g cap : Nat) (w : World) (hF : FW w g M4d) :
   Calls Try.prog 44 #[.agg #[.slice (some ⟨g, 0, none⟩) 4 cap, .int .i64 0, .int .i64 2, .int .i64 2, .int .i64 2], .int .i64 0, .int .i64 1] w
     (fun e w' => e = .returned (.int .i64 0) ∧ Wrote w w' g M4r) := by
  have h := rows_any ⟨M4d, 0, 2, 2, 2⟩ g cap 0 1 w hF (by simp [MatM.wf, I64]) (by decide) (by simp [I64]) (by simp [I64])
  have e : rowsL ⟨M4d, 0, 2, 2, 2⟩ 0 1 = M4r := by decide +kernel
  have e2 : rowsE ⟨M4d, 0, 2, 2, 2⟩ 0 1 = 0 := by decide +kernel
  rw [e, e2] at h
  exact h
set_option maxRecDepth 100000 in
set_option maxHeartbeats 1000000 in
theorem awake04 (w : World) : Calls Try.prog 41 #[] w (fun e w' => e = .returned (.bool true) ∧ ∃ o n, w' = ext w o n) := by
  have h1 : ∀ x ∈ M4, IsF x x := by decide +kernel
  have h2 : ∀ x ∈ M4r, IsF x x := by decide +kernel
  have H1 := hid h1
  have H2 := hid h2
  have da : decide (M4r = M4r) = true := by decide +kernel
  clear h1 h2
  go_enter Try.func41, Try.ntmps41
  go_wp2_with (first | (go_at_call 69; ((with_reducible refine (dense_4 _ _ ?_).mono ?_); (focus (repeat (first | exact FS.lit M4 (by decide) H1.out 4 _ (by simp only [size_ext, World.size_alloc]) | exact FS.lit M4 (by decide) H1.out 4 _ rfl | refine FS.alloc ?_ _ | refine FS.ext ?_ _ _))); rintro e w1 ⟨v, rfl, ⟨g, cap, rfl, hg, hF, hgl⟩, o1, n1, rfl⟩)))
  refine name_call (fun V hV => ?_)
  have gV : Grew w V := by rw [← hV]; (show Grew _ _; repeat (first | (with_reducible exact Grew.refl _) | (with_reducible assumption) | (with_reducible exact Grew.same_o) | (with_reducible exact Grew.app_o) | (with_reducible refine Grew.ext ?_ _ _) | (with_reducible refine Grew.alloc ?_ _) | ((with_reducible refine Grew.setCell ?_ ?_ _); rotate_left; (focus (dsimp only; first | omega | (simp only [size_ext, World.size_alloc, Array.size_append]; omega)))) | (with_reducible refine Grew.drewN ?_ _) | (with_reducible refine Grew.drew ?_)))
  have hFV : FW V g M4d := by rw [← hV]; (repeat (first | (with_reducible assumption) | ((with_reducible refine FW.ext_set ?_ ?_ ?_ _); rotate_left; (focus (simp only [size_setCell', World.size_alloc, size_ext, size_upd]; omega)); (focus (dsimp only; omega))) | ((with_reducible refine FW.setCell_ne ?_ ?_ _); rotate_left; (focus (dsimp only; omega))) | (with_reducible refine FW.ext ?_ _ _) | (with_reducible refine FW.alloc ?_ _)))
  have gl := hFV.lt
  have k3 : w.heap.size + 1 + o1.size < V.heap.size := by rw [← hV]; simp only [World.size_alloc, size_ext]; omega
  have c3 : ∀ i, V.cell? ⟨w.heap.size + 1 + o1.size, i, none⟩ = (#[.slice (some ⟨g, 0, none⟩) M4d.length cap, .int .i64 0, .int .i64 2, .int .i64 2, .int .i64 2] : Array Value)[i]? := by subst hV; intro i; go_simp
  have q3 : w.heap.size + 1 + o1.size ≠ g := by have := hF.lt; simp only [size_ext, World.size_alloc] at this; omega
  have hgw : w.heap.size ≤ g := by simp only [World.size_alloc] at hg; omega
  clear hV
  have hrows : Calls Try.prog 44 #[.agg #[.slice (some ⟨g, 0, none⟩) M4d.length cap, .int .i64 0, .int .i64 2, .int .i64 2, .int .i64 2], .int .i64 0, .int .i64 1] V
     (fun e w' => e = .returned (.int .i64 0) ∧ Wrote V w' g M4r) := rows_4 g cap V hFV
  (with_reducible refine hrows.mono ?_)
  rintro e w2 ⟨rfl, hw⟩
  have hF2 := hw.fw hFV
  have g2 : Grew w w2 := hw.grew gV hgw
  have hfs : FS w2 (.slice (some ⟨g, 0, none⟩) M4d.length cap) M4r := hF2.fs (by decide) cap
  obtain ⟨cs, o3, n3, hw2, hcs⟩ := hw
  have hcell : w2.cell? ⟨w.heap.size + 1 + o1.size, 0, none⟩ = some (.slice (some ⟨g, 0, none⟩) M4d.length cap) := by rw [hw2, cell_ext (by simpa using k3), cell_upd_ne q3]; exact c3 0
  have k4 : w.heap.size + 1 + o1.size < w2.heap.size := by rw [hw2]; simp only [size_ext, size_upd]; omega
  have HW := hid hw2
  clear hw2
  go_wp2_with (first | (go_at_call 47; ((with_reducible refine (all_any _ _ M4r M4r _ ?_ ?_).mono ?_); (focus (with_reducible exact hfs.alloc _)); (focus (repeat (first | exact FS.lit M4r (by decide) H2.out 4 _ (by simp only [size_ext, World.size_alloc]) | exact FS.lit M4r (by decide) H2.out 4 _ rfl | refine FS.alloc ?_ _ | refine FS.ext ?_ _ _))); rintro e w1 ⟨rfl, o4, n4, rfl⟩)))
  go_ret
  exact ⟨rfl, by (show Grew _ _; repeat (first | (with_reducible exact Grew.refl _) | (with_reducible assumption) | (with_reducible exact Grew.same_o) | (with_reducible exact Grew.app_o) | (with_reducible refine Grew.ext ?_ _ _) | (with_reducible refine Grew.alloc ?_ _) | ((with_reducible refine Grew.setCell ?_ ?_ _); rotate_left; (focus (dsimp only; first | omega | (simp only [size_ext, World.size_alloc, Array.size_append]; omega)))) | (with_reducible refine Grew.drewN ?_ _) | (with_reducible refine Grew.drew ?_)))⟩
end Go.Proofs.Ytcmggfpcbijcjaa
end
section
/-
  A region that draws, and where several operations act in no fixed order: a tree of orders.
-/
set_option linter.unusedSimpArgs false
set_option linter.unusedVariables false
namespace Sedge
open Go Go.RowKit
/-- A tree of orders: step k i t (kind 0: the same in every world of the class; 3: in every world); alt i t m: either i acts, then t; or one of m; stop: no more. -/
inductive OT where
  | done
  | step (k i : Nat) (t : OT)
  | alt (i : Nat) (t m : OT)
  | stop
def OT.alts : OT → List Nat
  | .alt i _ m => i :: m.alts
  | _ => []
def OT.fuel : OT → Nat
  | .done => 0
  | .step _ _ t => t.fuel + 1
  | .alt _ t _ => t.fuel + 1
  | .stop => 0
section
variable {P : Program} {ops : Array Oper} {Q : Exit → Act → World → Prop} {S : World → Prop}
def wpF (P : Program) (ops : Array Oper) (Q : Exit → Act → World → Prop) (S : World → Prop) : OT → Act → World → Prop
  | .done, a, w => Q .normal a w
  | .stop, _, _ => True
  | .step k i t, a, w =>
    match ops[i]? with
    | none => False
    | some o =>
      if Region.wanted o (yielded ops a.tmps) = true then
        ∃ v, (∀ w', (k = 0 → S w') → (execOp a.eval o).run P w' = .ok (.value v) w') ∧ wpF P ops Q S t (a.put o.dst v) w
      else wpF P ops Q S t (a.put o.dst undef) w
  | .alt i t m, a, w =>
    (match ops[i]? with
    | none => False
    | some o => o.guard = none ∧ o.wp P a w (fun a' w' => S w' ∧ wpF P ops Q S t a' w') Q) ∧ wpF P ops Q S m a w
def okF (ops : Array Oper) : OT → Array Bool → Bool → Bool
  | .done, listed, _ => (Region.ready .any ops listed).isEmpty
  | .stop, _, inner => inner
  | .step _ i t, listed, inner => !inner && (Region.ready .any ops listed).contains i && Region.free .any ops listed i && okF ops t (listed.setIfInBounds i true) false
  | .alt i t m, listed, inner => (inner || Region.ready .any ops listed == i :: m.alts) && okF ops t (listed.setIfInBounds i true) false && t.fuel == (match m with | .alt _ t' _ => t'.fuel | _ => t.fuel) && okF ops m listed true
theorem wanted_none' {o : Oper} {y : Nat → Option Bool} (hg : o.guard = none) : Region.wanted o y = true := by unfold Region.wanted; rw [hg]
theorem anyF (hsel : Region.noSelect ops = true) (hQ : ∀ c a d v w, Q (.panic c) (Act.put a d v) w → Q (.panic c) a w) : ∀ (t : OT),
    (∀ listed a w, okF ops t listed false = true → S w → wpF P ops Q S t a w → AnyT P .any ops Q S (fun _ => false) t.fuel listed a w) ∧
    (∀ listed a w n, okF ops t listed true = true → S w → wpF P ops Q S t a w → (∀ i t' m, t = .alt i t' m → t'.fuel = n) →
      ∀ j ∈ t.alts, wpOp P ops Q j (fun a' w' => (false = false → S w → S w') ∧ AnyT P .any ops Q S (fun _ => false) n (listed.setIfInBounds j true) a' w') a w)
  | .done => ⟨fun listed a w hok _ h => ⟨by simpa [okF] using hok, h⟩, fun _ _ _ _ _ _ _ _ j hj => by cases hj⟩
  | .stop => ⟨fun listed a w hok _ _ => by simp [okF] at hok, fun _ _ _ _ _ _ _ _ j hj => by cases hj⟩
  | .step k i t => by
    refine ⟨fun listed a w hok hS h => ?_, fun _ _ _ _ _ _ _ _ j hj => by cases hj⟩
    simp only [okF, Bool.and_eq_true, Bool.not_false, true_and] at hok
    obtain ⟨⟨h1, h2⟩, h3⟩ := hok
    unfold wpF at h
    cases ho : ops[i]? with
    | none => rw [ho] at h; exact h.elim
    | some o =>
      rw [ho] at h
      simp only at h
      by_cases hw : Region.wanted o (yielded ops a.tmps) = true
      · rw [if_pos hw] at h
        obtain ⟨v, hv, hn⟩ := h
        exact anyT_first (tail := fun _ => false) ho hsel hQ rfl (fun _ _ _ h => by cases h) t.fuel listed a w (Region.free_spec ho h2) (by simpa using h1) (.inl ⟨hw, fun w' hw' => hv w' fun _ => hw'⟩) hS ((anyF hsel hQ t).1 _ _ _ h3 hS hn)
      · rw [if_neg hw] at h
        exact anyT_first (tail := fun _ => false) ho hsel hQ rfl (fun _ _ _ h => by cases h) t.fuel listed a w (Region.free_spec ho h2) (by simpa using h1) (.inr ⟨by simpa using hw, rfl⟩) hS ((anyF hsel hQ t).1 _ _ _ h3 hS h)
  | .alt i t m => by
    have two : ∀ listed a w n, okF ops t (listed.setIfInBounds i true) false = true → okF ops m listed true = true → t.fuel = (match m with | .alt _ t' _ => t'.fuel | _ => t.fuel) → S w → wpF P ops Q S (.alt i t m) a w → t.fuel = n →
        ∀ j ∈ (OT.alt i t m).alts, wpOp P ops Q j (fun a' w' => (false = false → S w → S w') ∧ AnyT P .any ops Q S (fun _ => false) n (listed.setIfInBounds j true) a' w') a w := by
      intro listed a w n h1 h2 h3 hS h hn j hj
      unfold wpF at h
      obtain ⟨h4, h5⟩ := h
      rcases List.mem_cons.1 hj with rfl | hj
      · cases ho : ops[j]? with
        | none => rw [ho] at h4; exact h4.elim
        | some o =>
          rw [ho] at h4
          obtain ⟨hg, hwp⟩ := h4
          unfold wpOp
          rw [ho]
          simp only [wanted_none' hg, if_true]
          exact .inl (Oper.wp_mono (fun a' w' h' => ⟨fun _ _ => h'.1, by rw [← hn]; exact (anyF hsel hQ t).1 _ _ _ h1 h'.1 h'.2⟩) hwp)
      · refine (anyF hsel hQ m).2 listed a w n h2 hS h5 (fun i' t' m' hm => ?_) j hj
        subst hm
        simp only at h3
        omega
    refine ⟨fun listed a w hok hS h => ?_, fun listed a w n hok hS h hn => ?_⟩
    · simp only [okF, Bool.false_or, Bool.and_eq_true, beq_iff_eq] at hok
      obtain ⟨⟨⟨h1, h2⟩, h3⟩, h4⟩ := hok
      show AnyT P .any ops Q S _ (t.fuel + 1) listed a w
      refine ⟨fun h0 => (by rw [h1] at h0; cases h0), fun j hj => ?_⟩
      rw [h1] at hj
      exact two listed a w t.fuel h2 h4 h3 hS h rfl j hj
    · simp only [okF, Bool.true_or, Bool.true_and, Bool.and_eq_true, beq_iff_eq] at hok
      obtain ⟨⟨h2, h3⟩, h4⟩ := hok
      exact two listed a w n h2 h4 h3 hS h (hn i t m rfl)
theorem wp_region_F {id : Nat} {a : Act} {w : World} {l : List Oper} (S : World → Prop) (t : OT) (hm : P.follows .mixedOrders = true)
    (hB : (Region.noSelect l.toArray && okF l.toArray t (Array.replicate l.length false) false && t.fuel == l.length) = true)
    (hQ : ∀ c t df w, Q (.panic c) ⟨t, df⟩ w → ∀ t', Q (.panic c) ⟨t', df⟩ w) (hS : S w.drew)
    (h : wpF P l.toArray Q S t a w.drew) : (Code.region id l.toArray true).wp P Q a w := by
  simp only [Bool.and_eq_true, beq_iff_eq] at hB
  refine wp_region_any hm (any_of_anyT (S := S) (tail := fun _ => false) _ _ _ _ ?_)
  have hQ' : ∀ c a d v w, Q (.panic c) (Act.put a d v) w → Q (.panic c) a w := fun c a d v w h => by
    cases d with
    | none => exact h
    | some d => exact hQ c _ _ w h _
  have := (anyF (P := P) (Q := Q) (S := S) hB.1.1 hQ' t).1 (Array.replicate l.length false) a w.drew hB.1.2 hS h
  rw [hB.2] at this
  simpa using this
variable {l : List Oper}
theorem wpF_id {r : OT} {a : Act} {w : World} (h : wpF P ops Q S r a w) : wpF P ops Q S r a w := h
theorem wpF_done {a : Act} {w : World} (h : Q .normal a w) : wpF P ops Q S .done a w := h
theorem wpF_stop {a : Act} {w : World} : wpF P ops Q S .stop a w := trivial
theorem wpF_take {i : Nat} {o : Oper} {r : OT} {a : Act} {w : World} {v : Value} (ho : nth l i = some o) (hg : o.guard = none)
    (hv : ∀ w', S w' → (execOp a.eval o).run P w' = .ok (.value v) w')
    (h : wpF P l.toArray Q S r (a.put o.dst v) w) : wpF P l.toArray Q S (.step 0 i r) a w := by
  have hw := wanted_none (y := yielded l.toArray a.tmps) hg
  unfold wpF; rw [← nth_eq, ho]; simp only [hw, if_true]; exact ⟨v, fun w' h0 => hv w' (by simpa using h0), h⟩
theorem wpF_alt {i : Nat} {o : Oper} {r m : OT} {a : Act} {w : World} (ho : nth l i = some o) (hg : o.guard = none)
    (h : ∀ K : Act → World → Prop, (∀ a w, S w ∧ wpF P l.toArray Q S r a w → K a w) → o.wp P a w K Q) (hm : wpF P l.toArray Q S m a w) : wpF P l.toArray Q S (.alt i r m) a w := by
  unfold wpF; rw [← nth_eq, ho]; exact ⟨⟨hg, h _ fun _ _ h => h⟩, hm⟩
theorem wpF_go {r : OT} {a : Act} {w : World} (hS : S w) (h : wpF P ops Q S r a w) : S w ∧ wpF P ops Q S r a w := ⟨hS, h⟩
attribute [irreducible] wpF
end
end Sedge
end
section
/-
  The example of layer 7.
-/
set_option linter.unusedSimpArgs false
set_option linter.unusedVariables false
open Go Go.RowKit Sedge
namespace Go.Proofs.Ytcmggfpcbijcjaa
set_option maxRecDepth 100000 in
set_option maxHeartbeats 2000000 in
theorem vcheck_0 (w : World) : Calls Try.prog 144 #[.agg #[.slice none 0 0, .int .i64 0, .int .i64 0, .int .i64 0, .int .i64 0], .int .i64 0, .int .i64 0, .agg #[.slice none 0 0, .int .i64 0, .int .i64 0, .int .i64 0], .agg #[.slice none 0 0, .int .i64 0, .int .i64 0, .int .i64 0]] w (fun e w' => e = .returned (.int .i64 1) ∧ ∃ o n, w' = ext w o n) := by
  have cG : ∀ w', Calls Try.prog 130 #[.agg #[.slice none 0 0, .int .i64 0, .int .i64 0, .int .i64 0, .int .i64 0]] w' (fun e w2 => e = .returned (.bool false) ∧ ∃ o n, w2 = ext w' o n) := fun w' => by
    have := good_any ⟨[], 0, 0, 0, 0⟩ (.slice none 0 0) w' (FS.nil w') (by simp [MatM.wf, I64])
    rw [show (MatM.good ⟨[], 0, 0, 0, 0⟩) = false by decide] at this; exact this
  go_enter Try.func144, Try.ntmps144
  refine seq_stop ?_
  go_wp2
  refine stop_go (fun W hW => ?_)
  have s1 : w.heap.size < W.heap.size := by rw [hW]; simp only [World.size_alloc]; omega
  have b1 : ∀ i, W.cell? ⟨w.heap.size, i, none⟩ = (#[.slice none 0 0, .int .i64 0, .int .i64 0, .int .i64 0, .int .i64 0] : Array Value)[i]? := by intro i; rw [hW]; go_simp
  have s2 : w.heap.size + 1 < W.heap.size := by rw [hW]; simp only [World.size_alloc]; omega
  have b2 : ∀ i, W.cell? ⟨w.heap.size + 1, i, none⟩ = (#[.slice none 0 0, .int .i64 0, .int .i64 0, .int .i64 0] : Array Value)[i]? := by intro i; rw [hW]; go_simp
  have s3 : w.heap.size + 1 + 1 < W.heap.size := by rw [hW]; simp only [World.size_alloc]; omega
  have b3 : ∀ i, W.cell? ⟨w.heap.size + 1 + 1, i, none⟩ = (#[.slice none 0 0, .int .i64 0, .int .i64 0, .int .i64 0] : Array Value)[i]? := by intro i; rw [hW]; go_simp
  have g0 : Grew w W := by rw [hW]; exact (((Grew.refl _).alloc _).alloc _).alloc _
  clear hW
  go_wp2_with (first | (go_at_call 130; ((with_reducible refine (cG _).mono ?_); rintro e w1 ⟨rfl, oa, na, rfl⟩)))
  go_ret
  exact ⟨rfl, by (show Grew _ _; repeat (first | (with_reducible exact Grew.refl _) | (with_reducible assumption) | (with_reducible exact Grew.same_o) | (with_reducible exact Grew.app_o) | (with_reducible refine Grew.ext ?_ _ _) | (with_reducible refine Grew.alloc ?_ _) | ((with_reducible refine Grew.setCell ?_ ?_ _); rotate_left; (focus (dsimp only; first | omega | (simp only [size_ext, World.size_alloc, Array.size_append]; omega)))) | (with_reducible refine Grew.drewN ?_ _) | (with_reducible refine Grew.drew ?_)))⟩
set_option maxRecDepth 100000 in
set_option maxHeartbeats 2000000 in
theorem vabs_0 (w : World) : Calls Try.prog 143 #[.agg #[.slice none 0 0, .int .i64 0, .int .i64 0, .int .i64 0, .int .i64 0], .agg #[.slice none 0 0, .int .i64 0, .int .i64 0, .int .i64 0], .agg #[.slice none 0 0, .int .i64 0, .int .i64 0, .int .i64 0]] w (fun e w' => e = .returned (.int .i64 1) ∧ ∃ o n, w' = ext w o n) := by
  go_enter Try.func143, Try.ntmps143
  refine seq_stop ?_
  go_wp2
  refine stop_go (fun W hW => ?_)
  have s1 : w.heap.size < W.heap.size := by rw [hW]; simp only [World.size_alloc]; omega
  have b1 : ∀ i, W.cell? ⟨w.heap.size, i, none⟩ = (#[.slice none 0 0, .int .i64 0, .int .i64 0, .int .i64 0, .int .i64 0] : Array Value)[i]? := by intro i; rw [hW]; go_simp
  have s2 : w.heap.size + 1 < W.heap.size := by rw [hW]; simp only [World.size_alloc]; omega
  have b2 : ∀ i, W.cell? ⟨w.heap.size + 1, i, none⟩ = (#[.slice none 0 0, .int .i64 0, .int .i64 0, .int .i64 0] : Array Value)[i]? := by intro i; rw [hW]; go_simp
  have s3 : w.heap.size + 1 + 1 < W.heap.size := by rw [hW]; simp only [World.size_alloc]; omega
  have b3 : ∀ i, W.cell? ⟨w.heap.size + 1 + 1, i, none⟩ = (#[.slice none 0 0, .int .i64 0, .int .i64 0, .int .i64 0] : Array Value)[i]? := by intro i; rw [hW]; go_simp
  have g0 : Grew w W := by rw [hW]; exact (((Grew.refl _).alloc _).alloc _).alloc _
  clear hW
  go_wp2_with (first | (go_at_call 144; ((with_reducible refine (vcheck_0 _).mono ?_); rintro e w1 ⟨rfl, oa, na, rfl⟩)))
  go_ret
  exact ⟨rfl, by (show Grew _ _; repeat (first | (with_reducible exact Grew.refl _) | (with_reducible assumption) | (with_reducible exact Grew.same_o) | (with_reducible exact Grew.app_o) | (with_reducible refine Grew.ext ?_ _ _) | (with_reducible refine Grew.alloc ?_ _) | ((with_reducible refine Grew.setCell ?_ ?_ _); rotate_left; (focus (dsimp only; first | omega | (simp only [size_ext, World.size_alloc, Array.size_append]; omega)))) | (with_reducible refine Grew.drewN ?_ _) | (with_reducible refine Grew.drew ?_)))⟩
def X56 : List Nat := [4617315517961601024, 4618441417868443648]
def Y10 : List Nat := [4621256167635550208, 4621256167635550208]
def Y17 : List Nat := [4625478292286210048, 4630685579355357184]
theorem mul_17 (g cg bx cx bz cz : Nat) (w : World) (hF : FW w g Y10) (hX : FW w bx M4d) (hY : FW w bz X56) (n1 : bx ≠ g) (n2 : bz ≠ g) :
    Calls Try.prog 71 #[.float .f64 4607182418800017408, .agg #[.slice (some ⟨bx, 0, none⟩) 4 cx, .int .i64 0, .int .i64 2, .int .i64 2, .int .i64 2], .agg #[.slice (some ⟨bz, 0, none⟩) 2 cz, .int .i64 0, .int .i64 2, .int .i64 1], .float .f64 0, .agg #[.slice (some ⟨g, 0, none⟩) 2 cg, .int .i64 0, .int .i64 2, .int .i64 1]] w
      (fun e w' => e = .returned (.int .i64 0) ∧ But w [g] w' ∧ FW w' g Y17) := by
  have h := mul_ok 4607182418800017408 4607182418800017408 0 0 ⟨M4d, 0, 2, 2, 2⟩ ⟨X56, 0, 2, 1⟩ ⟨Y10, 0, 2, 1⟩ bx cx bz cz g cg w (by decide +kernel) (by decide +kernel)
    ⟨hX.fs (by decide) cx, hY.fs (by decide) cz, hF.fs (by decide) cg, FW.plain hX, FW.plain hY, FW.plain hF, by decide, by decide, by decide, rfl, rfl, by rw [show decide (g = bx) = false by simpa using fun e => n1 e.symm]; decide, by rw [show decide (g = bz) = false by simpa using fun e => n2 e.symm]; decide, by simp [MatM.wf, I64], by simp [VecM.wf, I64], by simp [VecM.wf, I64], by decide, by decide, by decide⟩
    hF (by decide) (fun e => absurd e n1) (fun e => absurd e n2) hX.lt hY.lt
  refine h.mono fun e w' hh => ?_
  obtain ⟨rfl, h1, L, h2, h3⟩ := hh
  refine ⟨rfl, h1, ?_⟩
  have e0 : L = Y17 := by
    rw [h3.final (by decide)]
    decide +kernel
  rw [← e0]; exact h2
set_option maxRecDepth 100000 in
set_option maxHeartbeats 4000000 in
theorem awake07 (w : World) : Calls Try.prog 67 #[] w (fun e w' => e = .returned (.bool true) ∧ ∃ o n, w' = ext w o n) := by
  have h1 : ∀ x ∈ M4, IsF x x := by decide +kernel
  have h2 : ∀ x ∈ X56, IsF x x := by decide +kernel
  have h3 : ∀ x ∈ Y17, IsF x x := by decide +kernel
  have h4 : ∀ x ∈ Y10, IsF x x := by decide +kernel
  have H1 := hid h1
  have H2 := hid h2
  have H3 := hid h3
  have da : decide (Y17 = Y17) = true := by decide +kernel
  have d4 := dense_4
  go_enter Try.func67, Try.ntmps67
  go_upto_region 4 with (first | (go_at_call 143; ((with_reducible refine (vabs_0 _).mono ?_); rintro e w1 ⟨rfl, o1, n1, rfl⟩)))
  refine name_any (fun V hV => ?_)
  have gw : Grew w V := by rw [← hV]; (show Grew _ _; repeat (first | (with_reducible exact Grew.refl _) | (with_reducible assumption) | (with_reducible exact Grew.same_o) | (with_reducible exact Grew.app_o) | (with_reducible refine Grew.ext ?_ _ _) | (with_reducible refine Grew.alloc ?_ _) | ((with_reducible refine Grew.setCell ?_ ?_ _); rotate_left; (focus (dsimp only; first | omega | (simp only [size_ext, World.size_alloc, Array.size_append]; omega)))) | (with_reducible refine Grew.drewN ?_ _) | (with_reducible refine Grew.drew ?_)))
  obtain ⟨g, hg⟩ : ∃ g, g = w.heap.size + o1.size := ⟨_, rfl⟩
  have hF : FW V g Y10 := by rw [← hV, hg]; exact FW.lit' (w := ext w o1 n1) Y10 h4 _ (by simp only [size_ext])
  have zg : w.heap.size ≤ g := by omega
  have kg := hF.lt
  have hG : ∀ k ∈ [g], w.heap.size ≤ k := by intro k hk; simp at hk; omega
  simp only [← hg]
  clear hV hg h1 h2 h3 h4
  have hm : ∀ w' bx cx bz cz, Grew V w' → FW w' bx M4d → FW w' bz X56 → V.heap.size ≤ bx → V.heap.size ≤ bz → Calls Try.prog 71 #[.float .f64 4607182418800017408, .agg #[.slice (some ⟨bx, 0, none⟩) M4d.length cx, .int .i64 0, .int .i64 2, .int .i64 2, .int .i64 2], .agg #[.slice (some ⟨bz, 0, none⟩) 2 cz, .int .i64 0, .int .i64 2, .int .i64 1], .float .f64 0, .agg #[.slice (some ⟨g, 0, none⟩) 2 2, .int .i64 0, .int .i64 2, .int .i64 1]] w'
      (fun e w2 => e = .returned (.int .i64 0) ∧ But w' [g] w2 ∧ FW w2 g Y17) := fun w' bx cx bz cz hg h1 h2 h3 h4 => mul_17 g 2 bx cx bz cz w' (hF.grew hg) h1 h2 (by omega) (by omega)
  go_wp2_with (first | (go_at_call 69; ((with_reducible refine (dense_4 _ _ ?_).mono ?_); (focus (repeat (first | exact FS.lit M4 (by decide) H1.out 4 _ (by simp only [size_ext, World.size_alloc]) | exact FS.lit M4 (by decide) H1.out 4 _ rfl | refine FS.alloc ?_ _ | refine FS.ext ?_ _ _))); rintro e wA ⟨v2, rfl, ⟨gx, cx, rfl, hgx, hFx, hglx⟩, hwx⟩; have gx1 : Grew V wA := Grew.trans (by (show Grew _ _; repeat (first | (with_reducible exact Grew.refl _) | (with_reducible assumption) | (with_reducible exact Grew.same_o) | (with_reducible exact Grew.app_o) | (with_reducible refine Grew.ext ?_ _ _) | (with_reducible refine Grew.alloc ?_ _) | ((with_reducible refine Grew.setCell ?_ ?_ _); rotate_left; (focus (dsimp only; first | omega | (simp only [size_ext, World.size_alloc, Array.size_append]; omega)))) | (with_reducible refine Grew.drewN ?_ _) | (with_reducible refine Grew.drew ?_)))) hwx; have qx : V.heap.size ≤ gx := Nat.le_trans (Grew.below (by (show Grew _ _; repeat (first | (with_reducible exact Grew.refl _) | (with_reducible assumption) | (with_reducible exact Grew.same_o) | (with_reducible exact Grew.app_o) | (with_reducible refine Grew.ext ?_ _ _) | (with_reducible refine Grew.alloc ?_ _) | ((with_reducible refine Grew.setCell ?_ ?_ _); rotate_left; (focus (dsimp only; first | omega | (simp only [size_ext, World.size_alloc, Array.size_append]; omega)))) | (with_reducible refine Grew.drewN ?_ _) | (with_reducible refine Grew.drew ?_))))).size hgx; have zA : V.heap.size ≤ wA.heap.size := gx1.below.size)) | (go_at_call 71; ((with_reducible refine (hm _ gx cx _ 2 (gx1.alloc _) (hFx.alloc _) ?_ qx zA).mono ?_); (focus (exact FW.lit' X56 H2.out _ rfl)); rintro e w4 ⟨rfl, hB, hF2⟩; have hBV : But V [g] w4 := ((But.refl V [g]).grew (gx1.alloc _)).trans hB (fun _ hb => .inl hb))) | (go_at_call 47; ((with_reducible refine (all_any _ _ Y17 Y17 _ ?_ ?_).mono ?_); (focus (exact (hF2.fs (by decide) 2).alloc _)); (focus (repeat (first | exact FS.lit Y17 (by decide) H3.out 2 _ (by simp only [size_ext, World.size_alloc]) | exact FS.lit Y17 (by decide) H3.out 2 _ rfl | refine FS.alloc ?_ _ | refine FS.ext ?_ _ _))); rintro e w5 ⟨rfl, hw5⟩)))
  go_ret
  exact ⟨rfl, (hBV.grew0 gw hG).trans (((Grew.refl _).alloc _).trans hw5)⟩
end Go.Proofs.Ytcmggfpcbijcjaa
end
section
/-
  The walk of the law GemvTurns (layer 7).
-/
set_option linter.unusedSimpArgs false
set_option linter.unusedVariables false
open Go Go.RowKit Sedge
namespace Go.Proofs.Ytcmggfpcbijcjaa
theorem OwnF.but {e : TypeId} {w w' : World} {G : List Nat} {B : Nat} {v : Value} {xs : List Nat} (h : OwnF e w B v xs) (hb : But w G w') (hne : ∀ k, v.ownBlock = some k → k ∉ G) : OwnF e w' B v xs := by
  obtain ⟨bs, h1, h2, h3⟩ := h
  refine ⟨bs, ?_, h2, h3⟩
  have hlt := World.ownsRow.lt h1
  obtain ⟨h0, h1⟩ := h1
  refine ⟨h0, ?_⟩
  rcases h1 with h1 | ⟨gg, cap, cur, rfl, hB, hh, r⟩
  · exact .inl h1
  · exact .inr ⟨gg, cap, cur, rfl, hB, by rw [hb.block gg (hlt gg rfl).2 (hne gg rfl)]; exact hh, r⟩
theorem Box.but {w w' : World} {G : List Nat} {p : Nat} {cs : Array Value} (h : Box w p cs) (hb : But w G w') (hn : p ∉ G) : Box w' p cs := by
  have hl := h.lt
  obtain ⟨e, he⟩ := h
  exact ⟨e, (hb.block p hl hn).trans he⟩
set_option maxRecDepth 100000 in
set_option maxHeartbeats 8000000 in
theorem turns_main (aL aX : Option Addr) (cL cX r c : Nat) (ls xs : List Int) (u1 u2 : Nat) (hu1 : u1 < 256) (hu2 : u2 < 256) (e1 : (1 + (u1 : Int) % 8) = (r : Int)) (e2 : (1 + (u2 : Int) % 8) = (c : Int)) (w : World) (hL : IS .i8 w (.slice aL ls.length cL) ls) (hX : IS .i8 w (.slice aX xs.length cX) xs)
    (bL : ∀ k, (ls.getD k 0).natAbs ≤ 128) (bX : ∀ k, (xs.getD k 0).natAbs ≤ 128) (c1 : ¬ ls.length < r * c) (c2 : ¬ xs.length < r) :
    Calls Try.prog 12 #[.slice aL ls.length cL, .slice aX xs.length cX, .int .u8 u1, .int .u8 u2] w (fun e w' => e = .returned (.bool true) ∧ ∃ o n, w' = ext w o n) := by
  have hr1 : 1 ≤ r := by omega
  have hr8 : r ≤ 8 := by omega
  have hc1 : 1 ≤ c := by omega
  have hc8 : c ≤ 8 := by omega
  have hrc : r * c ≤ 8 * 8 := Nat.mul_le_mul hr8 hc8
  have rw0 : IntKind.i64.wrap ((r : Int) * c) = (r : Int) * c := IntWalk.i64_in _ (by rw [← Int.natCast_mul]; omega)
  have d1 : decide ((ls.length : Int) < (r : Int) * c) = false := by rw [← Int.natCast_mul]; simp; omega
  have d2 : decide ((xs.length : Int) < (r : Int)) = false := by simp; omega
  have hlL := hL.len
  have hlX := hX.len
  have HL := hid hL
  have HX := hid hX
  have HbL := hid bL
  have HbX := hid bX
  have ltL : r * c ≤ ls.length := by omega
  have ltX : r ≤ xs.length := by omega
  clear hL hX bL bX c1 c2
  go_enter Try.func12, Try.ntmps12
  go_upto_region 6 with (first | (go_at_call 67; ((with_reducible refine (awake07 _).mono ?_); rintro e w1 ⟨rfl, o1, n1, rfl⟩)))
  refine name_any (fun W hW => ?_)
  have g0 : Grew w W := by rw [← hW]; (show Grew _ _; (try simp only [← Array.append_assoc]); repeat (first | (with_reducible exact Grew.same_o) | (with_reducible exact Grew.refl _) | (with_reducible assumption) | (with_reducible refine Grew.alloc ?_ _) | (with_reducible refine Grew.app_r ?_) | ((with_reducible refine Grew.setCell ?_ ?_ _); rotate_left; (focus (dsimp only; first | omega | (simp only [size_ext, World.size_alloc, Array.size_append]; omega)))) | (with_reducible refine Grew.ext ?_ _ _) | (with_reducible refine Grew.drewN ?_ _) | (with_reducible refine Grew.drew ?_)))
  clear hW d1 d2
  go_upto_region 7 with (first | (go_at_call 69; ((with_reducible refine (dense0k_any r c _ (by omega) (by omega) hr1).mono ?_); rintro e w1 ⟨ga, rfl, hga, hFa, o2, n2, rfl⟩)) | (go_at_call 69; ((with_reducible refine (dense0k_any c r _ (by omega) (by omega) hc1).mono ?_); rintro e w1 ⟨gb, rfl, hgb, hFb, o3, n3, rfl⟩)))
  simp only [ext_ext] at hFb
  refine name_any (fun V hV => ?_)
  obtain ⟨p1, hp1⟩ : ∃ p, p = W.heap.size + (o2.size + o3.size) := ⟨_, rfl⟩
  obtain ⟨p2, hp2⟩ : ∃ p, p = p1 + 1 := ⟨_, rfl⟩
  have gV : Grew W V := by rw [← hV]; (show Grew _ _; (try simp only [← Array.append_assoc]); repeat (first | (with_reducible exact Grew.same_o) | (with_reducible exact Grew.refl _) | (with_reducible assumption) | (with_reducible refine Grew.alloc ?_ _) | (with_reducible refine Grew.app_r ?_) | ((with_reducible refine Grew.setCell ?_ ?_ _); rotate_left; (focus (dsimp only; first | omega | (simp only [size_ext, World.size_alloc, Array.size_append]; omega)))) | (with_reducible refine Grew.ext ?_ _ _) | (with_reducible refine Grew.drewN ?_ _) | (with_reducible refine Grew.drew ?_)))
  have sz : (ext W (o2 ++ o3) n3).heap.size = p1 := by rw [hp1]; simp only [size_ext, Array.size_append]
  have X1 : Box V p1 #[.slice (some ⟨ga, 0, none⟩) (r * c) (r * c), .int .i64 0, .int .i64 r, .int .i64 c, .int .i64 r] := by rw [← hV]; exact (Box.new' sz.symm).grew ((Grew.refl _).alloc _)
  have X2 : Box V p2 #[.slice (some ⟨gb, 0, none⟩) (c * r) (c * r), .int .i64 0, .int .i64 c, .int .i64 r, .int .i64 c] := by rw [← hV]; exact Box.new' (by rw [hp2, ← sz]; simp only [World.size_alloc])
  have FAV : FW V ga (List.replicate (r * c) 0) := by rw [← hV]; exact (hFa.grew (by (show Grew _ _; (try simp only [← Array.append_assoc]); repeat (first | (with_reducible exact Grew.same_o) | (with_reducible exact Grew.refl _) | (with_reducible assumption) | (with_reducible refine Grew.alloc ?_ _) | (with_reducible refine Grew.app_r ?_) | ((with_reducible refine Grew.setCell ?_ ?_ _); rotate_left; (focus (dsimp only; first | omega | (simp only [size_ext, World.size_alloc, Array.size_append]; omega)))) | (with_reducible refine Grew.ext ?_ _ _) | (with_reducible refine Grew.drewN ?_ _) | (with_reducible refine Grew.drew ?_)))))
  have FBV : FW V gb (List.replicate (c * r) 0) := by rw [← hV]; exact (hFb.grew (by (show Grew _ _; (try simp only [← Array.append_assoc]); repeat (first | (with_reducible exact Grew.same_o) | (with_reducible exact Grew.refl _) | (with_reducible assumption) | (with_reducible refine Grew.alloc ?_ _) | (with_reducible refine Grew.app_r ?_) | ((with_reducible refine Grew.setCell ?_ ?_ _); rotate_left; (focus (dsimp only; first | omega | (simp only [size_ext, World.size_alloc, Array.size_append]; omega)))) | (with_reducible refine Grew.ext ?_ _ _) | (with_reducible refine Grew.drewN ?_ _) | (with_reducible refine Grew.drew ?_)))))
  have la := hFa.lt
  have lb := hFb.lt
  simp only [size_ext, Array.size_append] at la lb hga hgb
  have za : W.heap.size ≤ ga := by omega
  have zb : W.heap.size ≤ gb := by omega
  have nab : ga ≠ gb := by omega
  have na1 : ga ≠ p1 := by omega
  have na2 : ga ≠ p2 := by omega
  have nb1 : gb ≠ p1 := by omega
  have nb2 : gb ≠ p2 := by omega
  have n12 : p1 ≠ p2 := by omega
  have z1 : W.heap.size ≤ p1 := by omega
  have z2 : W.heap.size ≤ p2 := by omega
  have hLW := HL.out.grew g0
  have hXW := HX.out.grew g0
  simp only [← hp1]
  simp only [← hp2]
  clear hV hp1 hp2 sz la lb hga hgb hFa hFb
  go_wp2
  go_loopw [13, 14] (fun v c1 wr => ∃ (i : Nat) (LA LB : List Nat), i ≤ r ∧ c1 = .int .i64 i ∧ Grew W wr ∧ Box wr p1 #[.slice (some ⟨ga, 0, none⟩) (r * c) (r * c), .int .i64 0, .int .i64 r, .int .i64 c, .int .i64 r] ∧ Box wr p2 #[.slice (some ⟨gb, 0, none⟩) (c * r) (c * r), .int .i64 0, .int .i64 c, .int .i64 r, .int .i64 c] ∧ FW wr ga LA ∧ FW wr gb LB ∧ FA r c ls i 0 LA LB ∧ OwnF 22 wr W.heap.size v (upF xs i) ∧ (∀ k, v.ownBlock = some k → k ∉ [p1, p2, ga, gb])) (fun _ c1 _ => r - (intOf c1).toNat)
  case atStart => exact ⟨0, _, _, Nat.zero_le _, rfl, gV, X1, X2, FAV, FBV, FA.zero, OwnF.nil _ _ _, fun k hk => by simp [Value.ownBlock] at hk⟩
  case round =>
    obtain ⟨i, LA, LB, hi, rfl, gw, B1, B2, FA1, FB1, hfa, hv, nv⟩ := hrel
    clear X1 X2 FAV FBV gV
    by_cases hlt : i < r
    · obtain ⟨bx, ox, e, kbx, hxc⟩ := hXW.at.2 (by omega)
      subst e
      have hx0 := hxc i (by omega)
      obtain ⟨z, hz⟩ : ∃ z, z = xs.getD i 0 := ⟨_, rfl⟩
      rw [← hz] at hx0
      have hx1 := (gw.cell kbx).trans hx0
      have zwr := gw.below.size
      have kbx1 : bx < wr.heap.size := by omega
      have wz : WI (fint z) z := fint_int (by rw [hz]; have := HbX.out i; omega)
      have fz := wz.isF
      rw [← floatOfInt_fint z] at fz
      have lu : (upF xs i).length < 17592186044415 := by rw [upF_length]; omega
      have ef : floatOfInt .f64 z = fint (xs.getD i 0) := by rw [hz]; rfl
      have EF := hid ef
      clear hxc hx0 wz hz ef
      go_upto_region 12 with (first | (at_builtin; refine append1_fk finfo gw hv fz lu _ _ rfl rfl rfl ?_ rfl ?_; (focus (first | rfl | simp only [size_ext])); intro v2 w2 gw2 zw2 hv2 hk2 hn2))
      have l1 := B1.lt
      have l2 := B2.lt
      have lA := FA1.lt
      have lB := FB1.lt
      have nv2 : ∀ k, v2.ownBlock = some k → k ∉ [p1, p2, ga, gb] := fun k hk => by
        rcases hn2 k hk with h | h
        · exact nv k h
        · simp only [List.mem_cons, List.not_mem_nil, or_false]; omega
      have nv3 : ∀ q, q ∈ [p1, p2, ga, gb] → u13.ownBlock ≠ some q := fun q hq h => nv q h hq
      have C1 : Box w2 p1 #[.slice (some ⟨ga, 0, none⟩) (r * c) (r * c), .int .i64 0, .int .i64 r, .int .i64 c, .int .i64 r] := by obtain ⟨e, he⟩ := B1; exact ⟨e, (hk2 p1 l1 (nv3 _ (by simp))).trans he⟩
      have C2 : Box w2 p2 #[.slice (some ⟨gb, 0, none⟩) (c * r) (c * r), .int .i64 0, .int .i64 c, .int .i64 r, .int .i64 c] := by obtain ⟨e, he⟩ := B2; exact ⟨e, (hk2 p2 l2 (nv3 _ (by simp))).trans he⟩
      have FA2 : FW w2 ga LA := FA1.same (hk2 ga lA (nv3 _ (by simp)))
      have FB2 : FW w2 gb LB := FB1.same (hk2 gb lB (nv3 _ (by simp)))
      rw [EF.out, ← upF_succ] at hv2
      clear B1 B2 FA1 FB1 hv nv nv3 hk2 hn2 fz lu EF hx1 l1 l2 lA lB
      go_wp2
      go_loopw [15] (fun c1 wx => ∃ (j : Nat) (LA LB : List Nat), j ≤ c ∧ c1 = .int .i64 j ∧ Grew W wx ∧ Box wx p1 #[.slice (some ⟨ga, 0, none⟩) (r * c) (r * c), .int .i64 0, .int .i64 r, .int .i64 c, .int .i64 r] ∧ Box wx p2 #[.slice (some ⟨gb, 0, none⟩) (c * r) (c * r), .int .i64 0, .int .i64 c, .int .i64 r, .int .i64 c] ∧ FW wx ga LA ∧ FW wx gb LB ∧ FA r c ls i j LA LB ∧ OwnF 22 wx W.heap.size v2 (upF xs (i + 1))) (fun c1 _ => c - (intOf c1).toNat)
      case atStart => exact ⟨0, LA, LB, Nat.zero_le _, rfl, gw2, C1, C2, FA2, FB2, hfa, hv2⟩
      case round =>
        clear C1 C2 FA2 FB2 hfa hv2 gw2
        obtain ⟨j, LA, LB, hj, rfl, gx, B1, B2, FA1, FB1, hfa, hv⟩ := hrel
        by_cases hjl : j < c
        · have hp : i * c + j < r * c := by
            have := Nat.mul_le_mul_right c (show i + 1 ≤ r by omega)
            rw [Nat.add_mul] at this; omega
          obtain ⟨bl, ol, e, kbl, hlc⟩ := hLW.at.2 (by omega)
          subst e
          have hl0 := hlc (i * c + j) (by omega)
          obtain ⟨y, hy⟩ : ∃ y, y = ls.getD (i * c + j) 0 := ⟨_, rfl⟩
          rw [← hy] at hl0
          have hl1 := (gx.cell kbl).trans hl0
          have zwr := gx.below.size
          have kbl1 : bl < wr.heap.size := by omega
          have wy : WI (fint y) y := fint_int (by rw [hy]; have := HbL.out (i * c + j); omega)
          have fy := wy.isF
          have rw1 : IntKind.i64.wrap ((i : Int) * c) = (i : Int) * c := IntWalk.i64_in _ (by rw [← Int.natCast_mul]; omega)
          have rw2 : IntKind.i64.wrap ((i : Int) * c + j) = (i : Int) * c + j := IntWalk.i64_in _ (by rw [← Int.natCast_mul]; omega)
          have pn : ((i : Int) * c + j).toNat = i * c + j := by rw [← Int.natCast_mul]; omega
          have p0 : 0 ≤ (i : Int) * c + j := by rw [← Int.natCast_mul]; omega
          have p3 : (i : Int) * c + j < ls.length := by rw [← Int.natCast_mul]; omega
          have eFA := hfa.1
          have eFB := hfa.2.1
          have hsA : ∀ w', FW w' ga LA → Calls Try.prog 83 #[.agg #[.slice (some ⟨ga, 0, none⟩) (r * c) (r * c), .int .i64 0, .int .i64 r, .int .i64 c, .int .i64 r], .int .i64 i, .int .i64 j, .float .f64 (floatOfInt .f64 y)] w' (fun e w2 => e = .returned (.bool true) ∧ But w' [ga] w2 ∧ FW w2 ga (LA.set (i + j * r) (fint y))) := fun w' h => by
            have := vset_any ⟨LA, 0, r, c, r⟩ ga (r * c) i j _ (fint y) w' h fy (matd_good eFA hr1 hc1) (by simp [MatM.wf, I64]; omega) (by show (i : Int) < r; omega) (by show (j : Int) < c; omega) (by show LA.length ≤ _; omega)
            rw [show MatM.ws ⟨LA, 0, r, c, r⟩ = LA from rfl, eFA, matd_place] at this
            exact this
          have hsB : ∀ w', FW w' gb LB → Calls Try.prog 83 #[.agg #[.slice (some ⟨gb, 0, none⟩) (c * r) (c * r), .int .i64 0, .int .i64 c, .int .i64 r, .int .i64 c], .int .i64 j, .int .i64 i, .float .f64 (floatOfInt .f64 y)] w' (fun e w2 => e = .returned (.bool true) ∧ But w' [gb] w2 ∧ FW w2 gb (LB.set (j + i * c) (fint y))) := fun w' h => by
            have := vset_any ⟨LB, 0, c, r, c⟩ gb (c * r) j i _ (fint y) w' h fy (matd_good eFB hc1 hr1) (by simp [MatM.wf, I64]; omega) (by show (j : Int) < c; omega) (by show (i : Int) < r; omega) (by show LB.length ≤ _; rw [eFB, Nat.mul_comm]; omega)
            rw [show MatM.ws ⟨LB, 0, c, r, c⟩ = LB from rfl, eFB, matd_place] at this
            exact this
          have t1 : ∀ w', But wr [ga, gb] w' → ∀ i, w'.cell? ⟨p1, i, none⟩ = (#[.slice (some ⟨ga, 0, none⟩) (r * c) (r * c), .int .i64 0, .int .i64 r, .int .i64 c, .int .i64 r] : Array Value)[i]? := fun w' hb => (Box.but B1 hb (by simp; omega)).cell
          have t2 : ∀ w', But wr [ga, gb] w' → ∀ i, w'.cell? ⟨p2, i, none⟩ = (#[.slice (some ⟨gb, 0, none⟩) (c * r) (c * r), .int .i64 0, .int .i64 c, .int .i64 r, .int .i64 c] : Array Value)[i]? := fun w' hb => (Box.but B2 hb (by simp; omega)).cell
          clear hlc hl0 wy
          have hfn := hfa.set hlt hjl
          rw [← hy] at hfn
          have FN := hid hfn
          clear hfa hfn hy
          have D1 := But.refl wr [ga, gb]
          have tp1 := t1 _ D1
          have l1 := B1.lt
          have l2 := B2.lt
          clear t1
          go_wp2_with (first | (go_at_call 83; ((with_reducible refine (hsA _ (FA1.grew (by (show Grew _ _; (try simp only [← Array.append_assoc]); repeat (first | (with_reducible exact Grew.same_o) | (with_reducible exact Grew.refl _) | (with_reducible assumption) | (with_reducible refine Grew.alloc ?_ _) | (with_reducible refine Grew.app_r ?_) | ((with_reducible refine Grew.setCell ?_ ?_ _); rotate_left; (focus (dsimp only; first | omega | (simp only [size_ext, World.size_alloc, Array.size_append]; omega)))) | (with_reducible refine Grew.ext ?_ _ _) | (with_reducible refine Grew.drewN ?_ _) | (with_reducible refine Grew.drew ?_)))))).mono ?_); rintro e w1 ⟨rfl, hb1, F2⟩; (have D2 : But wr [ga, gb] w1 := (But.grew D1 (by (show Grew _ _; (try simp only [← Array.append_assoc]); repeat (first | (with_reducible exact Grew.same_o) | (with_reducible exact Grew.refl _) | (with_reducible assumption) | (with_reducible refine Grew.alloc ?_ _) | (with_reducible refine Grew.app_r ?_) | ((with_reducible refine Grew.setCell ?_ ?_ _); rotate_left; (focus (dsimp only; first | omega | (simp only [size_ext, World.size_alloc, Array.size_append]; omega)))) | (with_reducible refine Grew.ext ?_ _ _) | (with_reducible refine Grew.drewN ?_ _) | (with_reducible refine Grew.drew ?_))))).trans hb1 (fun _ h => .inl (by simp at h; simp [h])); have H2 : FW w1 gb LB := hb1.fw (FB1.grew (by (show Grew _ _; (try simp only [← Array.append_assoc]); repeat (first | (with_reducible exact Grew.same_o) | (with_reducible exact Grew.refl _) | (with_reducible assumption) | (with_reducible refine Grew.alloc ?_ _) | (with_reducible refine Grew.app_r ?_) | ((with_reducible refine Grew.setCell ?_ ?_ _); rotate_left; (focus (dsimp only; first | omega | (simp only [size_ext, World.size_alloc, Array.size_append]; omega)))) | (with_reducible refine Grew.ext ?_ _ _) | (with_reducible refine Grew.drewN ?_ _) | (with_reducible refine Grew.drew ?_))))) (by simp; omega); have tp2 := t2 _ D2))) | (go_at_call 83; ((with_reducible refine (hsB _ H2).mono ?_); rintro e w1 ⟨rfl, hb2, H3⟩; (have D3 : But wr [ga, gb] w1 := D2.trans hb2 (fun _ h => .inl (by simp at h; simp [h])); have F3 := hb2.fw F2 (by simp; omega)))))
          go_roundw
          case rel => exact ⟨j + 1, _, _, hjl, by go_num, D3.grew0 gx (by intro k hk; simp at hk; omega), Box.but B1 D3 (by simp; omega), Box.but B2 D3 (by simp; omega), F3, H3, FN.out, OwnF.but hv D3 (fun k hk h => nv2 k hk (by simp at h; simp [h]))⟩
          case measure => simp [intOf]; omega
        · have e : j = c := by omega
          subst e
          go_wp2
          go_roundw
          case rel => exact ⟨i + 1, LA, LB, hlt, by go_num, gx, B1, B2, FA1, FB1, hfa.next, hv, nv2⟩
          case measure => simp [intOf]; omega
    · have e : i = r := by omega
      subst e
      clear hLW hXW HL HX
      obtain ⟨gv, cv, ev, zv, FV⟩ := OwnF.fw hv (by
        intro h0
        obtain ⟨a0, c0, e0⟩ := hv.length
        rw [h0, upF_length] at e0
        cases e0; omega)
      subst ev
      rw [upF_length]
      have nvv := nv gv rfl
      simp only [List.mem_cons, List.not_mem_nil, or_false, not_or] at nvv
      clear hv nv
      go_upto_region 18 with fail
      go_cut [17, 18] (fun a b wx => ∃ gy gz, a = .slice (some ⟨gy, 0, none⟩) c c ∧ b = .slice (some ⟨gz, 0, none⟩) c c ∧ Grew wr wx ∧ FW wx gy (List.replicate c 0) ∧ FW wx gz (List.replicate c 0) ∧ gy ≠ gz ∧ wr.heap.size ≤ gy ∧ wr.heap.size ≤ gz)
      case first =>
        refine wp_region_F (Grew wr) (.step 0 0 (.step 0 2 (.alt 1 (.step 0 4 (.alt 3 (.step 0 5 .done) .stop)) (.alt 3 (.alt 1 (.step 0 4 (.step 0 5 .done)) .stop) .stop)))) (by kernel_rfl) (by kernel_rfl) (fun _ _ _ _ h _ => h) (by first | exact ⟨_, _, ext_drew⟩ | exact ⟨_, _, drew_ext0⟩ | (show Grew _ _; repeat (first | (with_reducible exact Grew.refl _) | (with_reducible assumption) | (with_reducible exact Grew.same_o) | (with_reducible exact Grew.app_o) | (with_reducible refine Grew.ext ?_ _ _) | (with_reducible refine Grew.alloc ?_ _) | ((with_reducible refine Grew.setCell ?_ ?_ _); rotate_left; (focus (dsimp only; first | omega | (simp only [size_ext, World.size_alloc, Array.size_append]; omega)))) | (with_reducible refine Grew.drewN ?_ _) | (with_reducible refine Grew.drew ?_)))) ?_
        go_wp2_with (first | ((with_reducible refine wpF_id ?_); refine wpF_alt rfl rfl (fun K hK => ?_) ?_; (focus ((with_reducible refine wp_mk ?_); refine make_K finfo (Grew.refl _) _ _ rfl rfl c rfl rfl rfl (by omega) ?_; intro oo nn k hk ho; have hF := ho.made))) | ((with_reducible refine wpF_id ?_); first | (refine wpF_take (v := ?_) rfl rfl ?_ ?_; rotate_left; (focus (rintro w' ⟨o', n', rfl⟩; go_simp; try with_reducible rfl)); simp only [Act.put, List.setIfInBounds_toArray, List.set_cons_zero, List.set_cons_succ]) | (refine wpF_alt rfl rfl (fun K hK => ?_) ?_) | (exact wpF_stop) | (refine wpF_done ?_)) | ((with_reducible refine wpF_go ?_ ?_); (focus (show Grew _ _; repeat (first | (with_reducible exact Grew.refl _) | (with_reducible assumption) | (with_reducible exact Grew.same_o) | (with_reducible exact Grew.app_o) | (with_reducible refine Grew.ext ?_ _ _) | (with_reducible refine Grew.alloc ?_ _) | ((with_reducible refine Grew.setCell ?_ ?_ _); rotate_left; (focus (dsimp only; omega))) | (with_reducible refine Grew.drewN ?_ _) | (with_reducible refine Grew.drew ?_))))) | ((with_reducible refine upon_id ?_); refine upon_fop rfl (by assumption) (by assumption) ?_; intro rr nn hr))
        all_goals go_meet
        all_goals rename_i oo0 nn0 k0 hk0 ho0 hF0
        all_goals have l0 := hF0.lt
        all_goals simp only [size_ext] at l0 hk
        all_goals have l1 : wr.heap.size ≤ k0 := hk0
        all_goals have l2 : wr.heap.size ≤ k := by change wr.heap.size + oo0.size ≤ k at hk; omega
        all_goals have l3 : k0 ≠ k := by change k0 < wr.heap.size + oo0.size at l0; change wr.heap.size + oo0.size ≤ k at hk; omega
        all_goals first | exact ⟨k0, k, rfl, rfl, by (show Grew _ _; (try simp only [← Array.append_assoc]); repeat (first | (with_reducible exact Grew.same_o) | (with_reducible exact Grew.refl _) | (with_reducible assumption) | (with_reducible refine Grew.alloc ?_ _) | (with_reducible refine Grew.app_r ?_) | ((with_reducible refine Grew.setCell ?_ ?_ _); rotate_left; (focus (dsimp only; first | omega | (simp only [size_ext, World.size_alloc, Array.size_append]; omega)))) | (with_reducible refine Grew.ext ?_ _ _) | (with_reducible refine Grew.drewN ?_ _) | (with_reducible refine Grew.drew ?_))), hF0.ext _ _, hF, l3, l1, l2⟩ | exact ⟨k, k0, rfl, rfl, by (show Grew _ _; (try simp only [← Array.append_assoc]); repeat (first | (with_reducible exact Grew.same_o) | (with_reducible exact Grew.refl _) | (with_reducible assumption) | (with_reducible refine Grew.alloc ?_ _) | (with_reducible refine Grew.app_r ?_) | ((with_reducible refine Grew.setCell ?_ ?_ _); rotate_left; (focus (dsimp only; first | omega | (simp only [size_ext, World.size_alloc, Array.size_append]; omega)))) | (with_reducible refine Grew.ext ?_ _ _) | (with_reducible refine Grew.drewN ?_ _) | (with_reducible refine Grew.drew ?_))), hF, hF0.ext _ _, l3.symm, l2, l1⟩
      case rest =>
        obtain ⟨gy, gz, rfl, rfl, gc, hFy, hFz, nyz, ly, lz⟩ := hcut
        have C1 := B1.grew gc
        have C2 := B2.grew gc
        have FA2 := FA1.grew gc
        have FB2 := FB1.grew gc
        have FV2 := FV.grew gc
        have gwc := Grew.trans gw gc
        have l1 := B1.lt
        have l2 := B2.lt
        have lA := FA1.lt
        have lB := FB1.lt
        have lV := FV.lt
        have hEQ : ∀ j, j < c → feq (fadd 0 (fmul 4611686018427387904 (dotTo (colV ⟨LA, 0, i, c, i⟩ j) ⟨upF xs i, 0, i, 1⟩ i))) (mulTo 4611686018427387904 (MatM.num ⟨LB, 0, c, i, c⟩) (VecM.num ⟨upF xs i, 0, i, 1⟩) 0 j i) = true := fun j hj => turns_eq hr8 hj hfa HbL.out HbX.out
        have eFA := hfa.1
        have eFB := hfa.2.1
        have HEQ := hid hEQ
        have hk2 : IsF 4611686018427387904 4611686018427387904 := by decide +kernel
        have eFV := upF_length xs i
        obtain ⟨XS, hXS⟩ : ∃ XS, XS = upF xs i := ⟨_, rfl⟩
        clear B1 B2 FA1 FB1 FV gw gc hfa hEQ HbL HbX
        rw [← hXS] at FV2 eFV HEQ
        go_upto_region 20 with fail
        refine name_any (fun V3 hV3 => ?_)
        obtain ⟨p3, hp3⟩ : ∃ p, p = wc.heap.size := ⟨_, rfl⟩
        have gV3 : Grew wc V3 := by rw [← hV3]; (show Grew _ _; (try simp only [← Array.append_assoc]); repeat (first | (with_reducible exact Grew.same_o) | (with_reducible exact Grew.refl _) | (with_reducible assumption) | (with_reducible refine Grew.alloc ?_ _) | (with_reducible refine Grew.app_r ?_) | ((with_reducible refine Grew.setCell ?_ ?_ _); rotate_left; (focus (dsimp only; first | omega | (simp only [size_ext, World.size_alloc, Array.size_append]; omega)))) | (with_reducible refine Grew.ext ?_ _ _) | (with_reducible refine Grew.drewN ?_ _) | (with_reducible refine Grew.drew ?_)))
        have X3 : Box V3 p3 #[.slice (some ⟨gv, 0, none⟩) i cv, .int .i64 0, .int .i64 i, .int .i64 1] := by rw [← hV3]; exact Box.new' hp3
        have X1 := C1.grew gV3
        have X2 := C2.grew gV3
        have FA3 := FA2.grew gV3
        have FB3 := FB2.grew gV3
        have FV3 := FV2.grew gV3
        have FY3 := hFy.grew gV3
        have FZ3 := hFz.grew gV3
        have ky := hFy.lt
        have kz := hFz.lt
        have k1 := X1.lt
        have k2 := X2.lt
        have k3 := X3.lt
        have t1 := X1.cell
        have t3 := X3.cell
        have gw3 := Grew.trans gwc gV3
        simp only [← hp3]
        have d3y : p3 ≠ gy := by omega
        have d3z : p3 ≠ gz := by omega
        clear hp3 hV3 C1 C2 FA2 FB2 FV2 hFy hFz gV3 gwc
        have hT : Calls Try.prog 84 #[.float .f64 4611686018427387904, .agg #[.slice (some ⟨ga, 0, none⟩) (i * c) (i * c), .int .i64 0, .int .i64 i, .int .i64 c, .int .i64 i], .agg #[.slice (some ⟨gv, 0, none⟩) i cv, .int .i64 0, .int .i64 i, .int .i64 1], .float .f64 0, .agg #[.slice (some ⟨gy, 0, none⟩) c c, .int .i64 0, .int .i64 c, .int .i64 1]] V3 (fun e w' => e = .returned (.int .i64 0) ∧ But V3 [gy] w' ∧ ∃ Z, FW w' gy Z ∧ Z.length = c ∧ ∀ j, j < c → Z.getD j 0 = fadd 0 (fmul 4611686018427387904 (dotTo (colV ⟨LA, 0, i, c, i⟩ j) ⟨XS, 0, i, 1⟩ i))) :=
          mulT_tn _ _ i c LA XS _ (by omega) hr1 (by omega) hc1 ga _ gv cv gy c V3 hk2 FA3 FV3 FY3 eFA eFV (by simp) (by omega) (by omega)
        go_upto_region 21 with (first | (go_at_call 84; ((with_reducible refine (hT).mono ?_); rintro e w1 ⟨rfl, hb1, Z1, FZ1, eZ1, hZ1⟩)))
        have Y2 := Box.but X2 hb1 (by simp; omega)
        have Y3 := Box.but X3 hb1 (by simp; omega)
        have FB4 := hb1.fw FB3 (by simp; omega)
        have FV4 := hb1.fw FV3 (by simp; omega)
        have FZ4 := hb1.fw FZ3 (by simp; omega)
        have zb1 := hb1.size
        have gw4 := hb1.grew0 gw3 (by intro k hk; simp at hk; omega)
        have t2 := Y2.cell
        have t3 := Y3.cell
        have k2 := Y2.lt
        have k3 := Y3.lt
        clear X1 X2 X3 FA3 FB3 FV3 FY3 FZ3 hb1 hT gw3 t1
        have hM : Calls Try.prog 71 #[.float .f64 4611686018427387904, .agg #[.slice (some ⟨gb, 0, none⟩) (c * i) (c * i), .int .i64 0, .int .i64 c, .int .i64 i, .int .i64 c], .agg #[.slice (some ⟨gv, 0, none⟩) i cv, .int .i64 0, .int .i64 i, .int .i64 1], .float .f64 0, .agg #[.slice (some ⟨gz, 0, none⟩) c c, .int .i64 0, .int .i64 c, .int .i64 1]] w1 (fun e w' => e = .returned (.int .i64 0) ∧ But w1 [gz] w' ∧ ∃ Z, FW w' gz Z ∧ Z.length = c ∧ ∀ j, j < c → Z.getD j 0 = mulTo 4611686018427387904 (MatM.num ⟨LB, 0, c, i, c⟩) (VecM.num ⟨XS, 0, i, 1⟩) 0 j i) :=
          mul_tn _ _ c i LB XS _ (by omega) hc1 (by omega) hr1 gb _ gv cv gz c w1 hk2 FB4 FV4 FZ4 eFB eFV (by simp) (by omega) (by omega)
        go_upto_region 22 with (first | (go_at_call 71; ((with_reducible refine hM.mono ?_); rintro e w2 ⟨rfl, hb2, Z2, FZ2, eZ2, hZ2⟩)))
        have FZ5 := hb2.fw FZ1 (by simp; omega)
        have gw5 := hb2.grew0 gw4 (by intro k hk; simp at hk; omega)
        have kgy := FZ5.lt
        have kgz := FZ2.lt
        have hq : ∀ j, j < c → ∃ b1 b2, w2.cell? ⟨gy, j, none⟩ = some (.float .f64 b1) ∧ w2.cell? ⟨gz, j, none⟩ = some (.float .f64 b2) ∧ (FloatKind.f64.format.order b1 b2 != some .eq) = false := fun j hj => by
          obtain ⟨b1, q1, q2⟩ := FZ5.get (i := j) (by omega)
          obtain ⟨b2, q3, q4⟩ := FZ2.get (i := j) (by omega)
          refine ⟨b1, b2, q1, q3, ?_⟩
          have h5 := HEQ.out j hj
          rw [← hZ1 j hj, ← hZ2 j hj] at h5
          have h6 : FloatKind.f64.format.order b1 b2 = D64.order (Z1.getD j 0) (Z2.getD j 0) := q2.order q4
          rw [h6]
          unfold feq at h5
          rw [bne, h5]; rfl
        clear hM hb2 FB4 FV4 FZ4 Y2 Y3 t2 t3 FZ1 FZ2 FZ5 hZ1 hZ2 HEQ k2 k3 gw4
        go_wp2
        go_loopw [22] (fun c1 wx => ∃ (j : Nat), j ≤ c ∧ c1 = .int .i64 j ∧ Grew w2 wx) (fun c1 _ => c - (intOf c1).toNat)
        case atStart => exact ⟨0, Nat.zero_le _, rfl, Grew.refl _⟩
        case round =>
          obtain ⟨j, hj, rfl, g6⟩ := hrel
          by_cases hjl : j < c
          · obtain ⟨b1, b2, q1, q2, q3⟩ := hq j hjl
            have q4 := (g6.cell kgy).trans q1
            have q5 := (g6.cell kgz).trans q2
            have z6 := g6.below.size
            have kgy1 : gy < wr.heap.size := by omega
            have kgz1 : gz < wr.heap.size := by omega
            clear hq q1 q2
            go_wp2
            refine wp_region_R (Grew wr) [] [(0,0), (0,1), (0,2), (0,3), (0,4), (0,5), (0,6), (0,7), (0,8)] (by kernel_rfl) (by kernel_rfl) (fun _ _ _ _ h _ => h) (by first | exact ⟨_, _, ext_drew⟩ | exact ⟨_, _, drew_ext0⟩ | (show Grew _ _; repeat (first | (with_reducible exact Grew.refl _) | (with_reducible assumption) | (with_reducible exact Grew.same_o) | (with_reducible exact Grew.app_o) | (with_reducible refine Grew.ext ?_ _ _) | (with_reducible refine Grew.alloc ?_ _) | ((with_reducible refine Grew.setCell ?_ ?_ _); rotate_left; (focus (dsimp only; first | omega | (simp only [size_ext, World.size_alloc, Array.size_append]; omega)))) | (with_reducible refine Grew.drewN ?_ _) | (with_reducible refine Grew.drew ?_)))) ?_
            go_wp2_with (first | ((with_reducible refine wpR_id ?_); first | (refine wpR_take (v := ?_) rfl rfl ?_ ?_; rotate_left; (focus (rintro w' ⟨o', n', rfl⟩; go_simp; try with_reducible rfl)); simp only [Act.put, List.setIfInBounds_toArray, List.set_cons_zero, List.set_cons_succ]) | (refine wpR_pure (v := ?_) rfl rfl ?_ ?_; rotate_left; (focus (intro w'; go_simp; try with_reducible rfl)); simp only [Act.put, List.setIfInBounds_toArray, List.set_cons_zero, List.set_cons_succ]) | (refine wpR_takeG (v := ?_) rfl rfl rfl rfl rfl ?_ ?_; rotate_left; (focus (rintro w' ⟨o', n', rfl⟩; go_simp; try with_reducible rfl)); simp only [Act.put, List.setIfInBounds_toArray, List.set_cons_zero, List.set_cons_succ]) | (refine wpR_skip rfl rfl rfl rfl rfl rfl ?_; simp only [Act.put, List.setIfInBounds_toArray, List.set_cons_zero, List.set_cons_succ]) | (refine wpR_skipU rfl rfl rfl rfl rfl ?_; simp only [Act.put, List.setIfInBounds_toArray, List.set_cons_zero, List.set_cons_succ]) | (refine wpR_do rfl rfl (fun K hK => ?_)) | (refine wpR_doG rfl rfl rfl rfl rfl (fun K hK => ?_)) | (refine wpR_last rfl rfl (fun K hK => ?_)) | (refine wpR_nil ?_)) | ((with_reducible refine wpR_go ?_ ?_); (focus (show Grew _ _; repeat (first | (with_reducible exact Grew.refl _) | (with_reducible assumption) | (with_reducible exact Grew.same_o) | (with_reducible exact Grew.app_o) | (with_reducible refine Grew.ext ?_ _ _) | (with_reducible refine Grew.alloc ?_ _) | ((with_reducible refine Grew.setCell ?_ ?_ _); rotate_left; (focus (dsimp only; first | omega | (simp only [size_ext, World.size_alloc, Array.size_append]; omega)))) | (with_reducible refine Grew.drewN ?_ _) | (with_reducible refine Grew.drew ?_))))) | ((with_reducible refine upon_id ?_); refine upon_fop rfl (by assumption) (by assumption) ?_; intro rr nn hr))
            go_roundw
            case rel => exact ⟨j + 1, hjl, by go_num, Grew.trans g6 (by (show Grew _ _; (try simp only [← Array.append_assoc]); repeat (first | (with_reducible exact Grew.same_o) | (with_reducible exact Grew.refl _) | (with_reducible assumption) | (with_reducible refine Grew.alloc ?_ _) | (with_reducible refine Grew.app_r ?_) | ((with_reducible refine Grew.setCell ?_ ?_ _); rotate_left; (focus (dsimp only; first | omega | (simp only [size_ext, World.size_alloc, Array.size_append]; omega)))) | (with_reducible refine Grew.ext ?_ _ _) | (with_reducible refine Grew.drewN ?_ _) | (with_reducible refine Grew.drew ?_))))⟩
            case measure => simp [intOf]; omega
          · have e : j = c := by omega
            subst e
            go_wp2_with (first | (go_at_call 67; ((with_reducible refine (awake07 _).mono ?_); rintro e w9 ⟨rfl, o9, n9, rfl⟩)))
            go_ret
            exact ⟨rfl, Grew.trans g0 (Grew.trans gw5 (Grew.trans g6 (by (show Grew _ _; (try simp only [← Array.append_assoc]); repeat (first | (with_reducible exact Grew.same_o) | (with_reducible exact Grew.refl _) | (with_reducible assumption) | (with_reducible refine Grew.alloc ?_ _) | (with_reducible refine Grew.app_r ?_) | ((with_reducible refine Grew.setCell ?_ ?_ _); rotate_left; (focus (dsimp only; first | omega | (simp only [size_ext, World.size_alloc, Array.size_append]; omega)))) | (with_reducible refine Grew.ext ?_ _ _) | (with_reducible refine Grew.drewN ?_ _) | (with_reducible refine Grew.drew ?_))))))⟩
theorem turns_nat (VL VX : Value) (ls xs : List Int) (u1 u2 : Nat) (hu1 : u1 < 256) (hu2 : u2 < 256) (w : World) (hL : IS .i8 w VL ls) (hX : IS .i8 w VX xs) (bL : ∀ k, (ls.getD k 0).natAbs ≤ 128) (bX : ∀ k, (xs.getD k 0).natAbs ≤ 128) :
    Calls Try.prog 12 #[VL, VX, .int .u8 u1, .int .u8 u2] w (fun e w' => e = .returned (.bool true) ∧ ∃ o n, w' = ext w o n) := by
  obtain ⟨aL, cL, rfl⟩ := hL.shape
  obtain ⟨aX, cX, rfl⟩ := hX.shape
  obtain ⟨r, hr⟩ : ∃ r, r = 1 + u1 % 8 := ⟨_, rfl⟩
  obtain ⟨c, hc⟩ : ∃ c, c = 1 + u2 % 8 := ⟨_, rfl⟩
  have e1 : (1 + (u1 : Int) % 8) = (r : Int) := by omega
  have e2 : (1 + (u2 : Int) % 8) = (c : Int) := by omega
  have hr8 : r ≤ 8 := by omega
  have hc8 : c ≤ 8 := by omega
  have hrc : r * c ≤ 8 * 8 := Nat.mul_le_mul hr8 hc8
  have hr1 : 1 ≤ r := by omega
  have hc1 : 1 ≤ c := by omega
  have hlL := hL.len
  have hlX := hX.len
  have rw0 : IntKind.i64.wrap ((r : Int) * c) = (r : Int) * c := IntWalk.i64_in _ (by rw [← Int.natCast_mul]; omega)
  by_cases c1 : ls.length < r * c
  · have d1 : decide ((ls.length : Int) < (r : Int) * c) = true := by rw [← Int.natCast_mul]; simp; omega
    clear hr hc bL bX hL hX
    go_enter Try.func12, Try.ntmps12
    go_wp2_with (first | (go_at_call 67; ((with_reducible refine (awake07 _).mono ?_); rintro e w1 ⟨rfl, o1, n1, rfl⟩)))
    go_ret
    exact ⟨rfl, by (show Grew _ _; repeat (first | (with_reducible exact Grew.refl _) | (with_reducible assumption) | (with_reducible exact Grew.same_o) | (with_reducible exact Grew.app_o) | (with_reducible refine Grew.ext ?_ _ _) | (with_reducible refine Grew.alloc ?_ _) | ((with_reducible refine Grew.setCell ?_ ?_ _); rotate_left; (focus (dsimp only; first | omega | (simp only [size_ext, World.size_alloc, Array.size_append]; omega)))) | (with_reducible refine Grew.drewN ?_ _) | (with_reducible refine Grew.drew ?_)))⟩
  · by_cases c2 : xs.length < r
    · have d1 : decide ((ls.length : Int) < (r : Int) * c) = false := by rw [← Int.natCast_mul]; simp; omega
      have d2 : decide ((xs.length : Int) < (r : Int)) = true := by simp; omega
      clear hr hc bL bX hL hX
      go_enter Try.func12, Try.ntmps12
      go_wp2_with (first | (go_at_call 67; ((with_reducible refine (awake07 _).mono ?_); rintro e w1 ⟨rfl, o1, n1, rfl⟩)))
      go_ret
      exact ⟨rfl, by (show Grew _ _; repeat (first | (with_reducible exact Grew.refl _) | (with_reducible assumption) | (with_reducible exact Grew.same_o) | (with_reducible exact Grew.app_o) | (with_reducible refine Grew.ext ?_ _ _) | (with_reducible refine Grew.alloc ?_ _) | ((with_reducible refine Grew.setCell ?_ ?_ _); rotate_left; (focus (dsimp only; first | omega | (simp only [size_ext, World.size_alloc, Array.size_append]; omega)))) | (with_reducible refine Grew.drewN ?_ _) | (with_reducible refine Grew.drew ?_)))⟩
    · exact turns_main aL aX cL cX r c ls xs u1 u2 hu1 hu2 e1 e2 w hL hX bL bX c1 c2
theorem i8_abs {zs : List Int} (h : ∀ z ∈ zs, IntKind.min .i8 ≤ z ∧ z ≤ IntKind.max .i8) (k : Nat) : (zs.getD k 0).natAbs ≤ 128 := by
  by_cases hk : k < zs.length
  · have hm : zs.getD k 0 ∈ zs := by rw [List.getD_eq_getElem?_getD, List.getElem?_eq_getElem hk]; exact List.getElem_mem _
    have := h _ hm
    have h2 : -128 ≤ zs.getD k 0 ∧ zs.getD k 0 ≤ 127 := by simpa [IntKind.min, IntKind.max, IntKind.signed, IntKind.bits] using this
    omega
  · rw [List.getD_eq_getElem?_getD, List.getElem?_eq_none (by omega)]; decide
theorem gemvTurns_any (VL : Value) (ls : List Int) (VX : Value) (xs : List Int) (z1 z2 : Int) (w : World) (hL : IS .i8 w VL ls) (bL : ∀ z ∈ ls, IntKind.min .i8 ≤ z ∧ z ≤ IntKind.max .i8) (hX : IS .i8 w VX xs) (bX : ∀ z ∈ xs, IntKind.min .i8 ≤ z ∧ z ≤ IntKind.max .i8) (h1 : 0 ≤ z1 ∧ z1 ≤ 255) (h2 : 0 ≤ z2 ∧ z2 ≤ 255) :
    Calls Try.prog 12 #[VL, VX, .int .u8 z1, .int .u8 z2] w (fun e w' => e = .returned (.bool true) ∧ ∃ o n, w' = ext w o n) := by
  obtain ⟨u1, rfl⟩ : ∃ u : Nat, z1 = u := ⟨z1.toNat, by omega⟩
  obtain ⟨u2, rfl⟩ : ∃ u : Nat, z2 = u := ⟨z2.toNat, by omega⟩
  exact turns_nat VL VX ls xs u1 u2 (by omega) (by omega) w hL hX (i8_abs bL) (i8_abs bX)
end Go.Proofs.Ytcmggfpcbijcjaa
end
