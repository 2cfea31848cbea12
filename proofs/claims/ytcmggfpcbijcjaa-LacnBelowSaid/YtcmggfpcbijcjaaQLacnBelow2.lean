/-
  Texts laid one behind the other (a claim has at most 60 files): View, Lists, Tabs, Move, Open, Move4, Take, Grid, Into, VecLaw, Seg, Vec2, Meet, Meet2, Trsv1, Sums, Ger1, TrsvLaw, TrsvLaw2, Trsv2, Clear, Gemv1, Gemv2.
-/
import Derived.Test.YtcmggfpcbijcjaaProg
import Derived.ProofKit
import Derived.OpenShut
import Derived.Deep.Fields
import Derived.LaidEqlPtr
import Derived.Test.YtcmggfpcbijcjaaQLacnBelow1
section
/-
  Contracts: whether vectors and matrices are right (layer 3 and its reference).
-/
set_option linter.unusedSimpArgs false
set_option linter.unusedVariables false
open Go Go.RowKit Sedge
namespace Go.Proofs.Ytcmggfpcbijcjaa

theorem fitsB_eq (size off steps step more : Int) (h1 : 0 ≤ off) (h5 : 1 ≤ step) :
   decide (steps ≤ (size - 1 - off - more) / step) = fitsB size off steps step more := by
  unfold fitsB
  have : steps ≤ (size - 1 - off - more) / step ↔ steps * step ≤ size - 1 - off - more := Int.le_ediv_iff_mul_le (by omega)
  simp only [this]
  congr 1
  simp only [eq_iff_iff]
  constructor
  · intro h; exact ⟨h1, by omega⟩
  · intro h; omega
theorem fitsB_no (size off steps step more : Int) (h4 : 0 ≤ steps) (h5 : 1 ≤ step) (h6 : 0 ≤ more) (h : size ≤ off + more) : fitsB size off steps step more = false := by
  unfold fitsB
  have : 0 ≤ steps * step := Int.mul_nonneg h4 (by omega)
  simp; omega
set_option maxHeartbeats 400000 in
theorem fits_any (size off steps step more : Int) (w : World) (h0 : 0 ≤ size) (h0' : size ≤ 9223372036854775807) (h1 : 0 ≤ off) (h1' : off ≤ 9223372036854775807) (h4 : 0 ≤ steps) (h5 : 1 ≤ step) (h6 : 0 ≤ more) (h6' : more ≤ 9223372036854775807) :
   Calls Try.prog 193 #[.int .i64 size, .int .i64 off, .int .i64 steps, .int .i64 step, .int .i64 more] w (fun e w' => e = .returned (.bool (fitsB size off steps step more)) ∧ w = w') := by
  by_cases h2 : off < size
  · by_cases h3 : more < size - off
    · go_enter Try.func193, Try.ntmps193
      go_wp2
      go_ret
      exact ⟨by simp [fitsB_eq, *], rfl⟩
    · go_enter Try.func193, Try.ntmps193
      go_wp2
      go_ret
      exact ⟨by rw [fitsB_no] <;> first | rfl | omega, rfl⟩
  · go_enter Try.func193, Try.ntmps193
    go_wp2
    go_ret
    exact ⟨by rw [fitsB_no] <;> first | rfl | omega, rfl⟩

set_option maxHeartbeats 400000 in
theorem right_any (x : VecM) (D : Value) (w : World) (hD : FS w D x.ws) (hwf : x.wf) :
   Calls Try.prog 135 #[.agg #[D, .int .i64 x.off, .int .i64 x.n, .int .i64 x.inc]] w (fun e w' => e = .returned (.bool x.right) ∧ ∃ o n, w' = ext w o n) := by
  obtain ⟨ws, off, n, inc⟩ := x
  obtain ⟨a, cap, rfl⟩ := hD.shape
  have hl := hD.len
  simp only [VecM.wf, I64] at hwf hD hl ⊢
  obtain ⟨⟨_, _⟩, ⟨_, _⟩, ⟨_, _⟩⟩ := hwf
  by_cases k1 : n < 0
  · go_enter Try.func135, Try.ntmps135
    go_wp2
    go_ret
    exact ⟨by simp [VecM.right]; omega, (Grew.refl _).alloc _⟩
  by_cases k2 : inc < 1
  · go_enter Try.func135, Try.ntmps135
    go_wp2
    go_ret
    exact ⟨by simp [VecM.right]; omega, (Grew.refl _).alloc _⟩
  by_cases k3 : off < 0
  · go_enter Try.func135, Try.ntmps135
    go_wp2
    go_ret
    exact ⟨by simp [VecM.right]; omega, (Grew.refl _).alloc _⟩
  by_cases k4 : n = 0
  · subst k4
    go_enter Try.func135, Try.ntmps135
    go_wp2
    go_ret
    exact ⟨by simp [VecM.right]; omega, (Grew.refl _).alloc _⟩
  · have k4' : (n == 0) = false := by simpa using k4
    go_enter Try.func135, Try.ntmps135
    go_wp2_with (go_at_call 193; refine (fits_any _ _ _ _ _ _ (by omega) (by omega) (by omega) (by omega) (by omega) (by omega) (by omega) (by omega)).mono ?_; rintro e w' ⟨rfl, rfl⟩)
    go_ret
    exact ⟨by simp [VecM.right, k4]; omega, (Grew.refl _).alloc _⟩

set_option maxHeartbeats 1000000 in
theorem good_any (x : MatM) (D : Value) (w : World) (hD : FS w D x.ws) (hwf : x.wf) :
   Calls Try.prog 130 #[.agg #[D, .int .i64 x.off, .int .i64 x.rows, .int .i64 x.cols, .int .i64 x.ld]] w (fun e w' => e = .returned (.bool x.good) ∧ ∃ o n, w' = ext w o n) := by
  obtain ⟨ws, off, rows, cols, ld⟩ := x
  obtain ⟨a, cap, rfl⟩ := hD.shape
  have hl := hD.len
  simp only [MatM.wf, I64] at hwf hD hl ⊢
  obtain ⟨⟨_, _⟩, ⟨_, _⟩, ⟨_, _⟩, ⟨_, _⟩⟩ := hwf
  by_cases k1 : rows < 0
  · go_enter Try.func130, Try.ntmps130
    go_wp2
    go_ret
    exact ⟨by simp [MatM.good]; omega, (Grew.refl _).alloc _⟩
  by_cases k2 : cols < 0
  · go_enter Try.func130, Try.ntmps130
    go_wp2
    go_ret
    exact ⟨by simp [MatM.good]; omega, (Grew.refl _).alloc _⟩
  by_cases k3 : off < 0
  · go_enter Try.func130, Try.ntmps130
    go_wp2
    go_ret
    exact ⟨by simp [MatM.good]; omega, (Grew.refl _).alloc _⟩
  by_cases k4 : ld < 1
  · go_enter Try.func130, Try.ntmps130
    go_wp2
    go_ret
    exact ⟨by simp [MatM.good]; omega, (Grew.refl _).alloc _⟩
  by_cases k5 : ld < rows
  · go_enter Try.func130, Try.ntmps130
    go_wp2
    go_ret
    exact ⟨by simp [MatM.good]; omega, (Grew.refl _).alloc _⟩
  by_cases k6 : rows = 0
  · subst k6
    go_enter Try.func130, Try.ntmps130
    go_wp2
    go_ret
    exact ⟨by simp [MatM.good]; omega, (Grew.refl _).alloc _⟩
  have k6' : (rows == 0) = false := by simpa using k6
  by_cases k7 : cols = 0
  · subst k7
    go_enter Try.func130, Try.ntmps130
    go_wp2
    go_ret
    exact ⟨by simp [MatM.good]; omega, (Grew.refl _).alloc _⟩
  · have k7' : (cols == 0) = false := by simpa using k7
    go_enter Try.func130, Try.ntmps130
    go_wp2_with (go_at_call 193; refine (fits_any _ _ _ _ _ _ (by omega) (by omega) (by omega) (by omega) (by omega) (by omega) (by omega) (by omega)).mono ?_; rintro e w' ⟨rfl, rfl⟩)
    go_ret
    exact ⟨by simp [MatM.good, k6, k7]; omega, (Grew.refl _).alloc _⟩

/-- straightedgeref03.Great. -/
def MatM.great (m : MatM) : Bool := decide (1000 < (m.ws.length : Int)) || decide (20 < m.rows) || decide (20 < m.cols)
/-- straightedgeref03.Long. -/
def VecM.long (m : VecM) : Bool := decide (1000 < (m.ws.length : Int)) || decide (60 < m.n)
end Go.Proofs.Ytcmggfpcbijcjaa
end
section
/-
  Contracts: lists of one's own (reference of layers 1 and 3): copies, tables of noughts.
-/
set_option linter.unusedSimpArgs false
set_option linter.unusedVariables false
open Go Go.RowKit Sedge
namespace Go.Proofs.Ytcmggfpcbijcjaa
theorem finfo : ElemF Try.prog 24 22 := ⟨by kernel_rfl, by kernel_rfl⟩
theorem notnil {b c n : Nat} {o} : Value.slice (some ⟨b, o, none⟩) n c ≠ .slice none 0 0 := by intro h; cases h
end Go.Proofs.Ytcmggfpcbijcjaa
end
section
/-
  Contracts: the reference's tables (layer 3): a number, of a matrix, into a list; lists of a vector.
-/
set_option linter.unusedSimpArgs false
set_option linter.unusedVariables false
open Go Go.RowKit
namespace Sedge
def MatM.place (m : MatM) (i j : Nat) : Nat := (m.off + i + j * m.ld).toNat
def MatM.num (m : MatM) (i j : Nat) : Nat := m.ws.getD (m.place i j) 0
theorem MatM.good_n {m : MatM} (h : m.good = true) : 0 ≤ m.rows ∧ 0 ≤ m.cols ∧ 0 ≤ m.off ∧ 1 ≤ m.ld ∧ m.rows ≤ m.ld := by
  simp [MatM.good] at h; omega
/-- A good matrix' places lie in its list. -/
theorem MatM.good_place {m : MatM} (h : m.good = true) {i j : Nat} (hi : (i : Int) < m.rows) (hj : (j : Int) < m.cols) :
    0 ≤ m.off + i + j * m.ld ∧ m.off + i + j * m.ld < m.ws.length ∧ 0 ≤ (j : Int) * m.ld := by
  have h0 := MatM.good_n h
  simp [MatM.good, fitsB] at h
  have h1 : m.off + (m.cols - 1) * m.ld + (m.rows - 1) < m.ws.length := by
    rcases h.2 with h2 | h2 <;> omega
  have h2 : (j : Int) * m.ld ≤ (m.cols - 1) * m.ld := Int.mul_le_mul_of_nonneg_right (by omega) (by omega)
  have h3 : 0 ≤ (j : Int) * m.ld := Int.mul_nonneg (by omega) (by omega)
  omega
/-- A matrix' numbers, row by row. -/
def MatM.tabTo (m : MatM) (k : Nat) : List Nat := writes (List.replicate (m.rows.toNat * m.cols.toNat) 0) id (fun t => m.num (t / m.cols.toNat) (t % m.cols.toNat)) k
def MatM.tab (m : MatM) : List Nat := m.tabTo (m.rows.toNat * m.cols.toNat)
/-- The list as it is when a table's numbers are in it. -/
def MatM.intoTo (m : MatM) (R C : Nat) (t : List Nat) (k : Nat) : List Nat := writes m.ws (fun t => m.place (t / C) (t % C)) (fun k => t.getD k 0) k
def MatM.into (m : MatM) (R C : Nat) (t : List Nat) : List Nat := m.intoTo R C t (R * C)
end Sedge
open Sedge
namespace Go.Proofs.Ytcmggfpcbijcjaa
/-- (M).At of the reference. -/
theorem rat_any (R C i j : Nat) (A : Value) (ws : List Nat) (w : World) (hA : FS w A ws) (hR : R ≤ 1000) (hC : C ≤ 1000) (hi : i ≤ 1000) (hj : j ≤ 1000) (hl : i * C + j < ws.length) :
   Calls Try.prog 72 #[.agg #[.int .i64 R, .int .i64 C, A], .int .i64 i, .int .i64 j] w (fun e w' => ∃ b, e = .returned (.float .f64 b) ∧ IsF b (ws.getD (i * C + j) 0) ∧ ∃ o n, w' = ext w o n) := by
  obtain ⟨blk, o, cap, rfl, hlt, hc⟩ := hA.open (by omega)
  obtain ⟨b, hb, hf⟩ := hc (i * C + j) hl
  have hm : i * C ≤ 1000 * 1000 := Nat.mul_le_mul hi hC
  have e0 : ((i : Int) * (C : Int)).toNat = i * C := by rw [← Int.natCast_mul]; rfl
  have e1 : ((i : Int) * (C : Int) + (j : Int)).toNat = i * C + j := by rw [← Int.natCast_mul]; omega
  have h0 : 0 ≤ (i : Int) * C := by rw [← Int.natCast_mul]; omega
  have h1 : (i : Int) * C ≤ 1000000 := by rw [← Int.natCast_mul]; omega
  have h4 : (i : Int) * C + j < ws.length := by rw [← Int.natCast_mul]; omega
  have h2 : IntKind.i64.wrap ((i : Int) * C) = (i : Int) * C := IntWalk.i64_in _ (by omega)
  have h3 : IntKind.i64.wrap ((i : Int) * C + j) = (i : Int) * C + j := IntWalk.i64_in _ (by omega)
  clear hc e0 hm
  go_enter Try.func72, Try.ntmps72
  go_wp2
  go_ret
  exact ⟨b, rfl, hf, (Grew.refl _).alloc _⟩
end Go.Proofs.Ytcmggfpcbijcjaa
end
section
/-
  Contracts: rows, what swaps numbers, rows that change places (layers 3 and 4).
-/
set_option linter.unusedSimpArgs false
set_option linter.unusedVariables false
open Go Go.RowKit Sedge
namespace Go.Proofs.Ytcmggfpcbijcjaa
/-- A row, as a vector. -/
def rowV (m : MatM) (i : Nat) : VecM := ⟨m.ws, if 0 < m.cols then m.off + i else m.off, m.cols, m.ld⟩
/-- The numbers at p k and q k change places, one pair behind the other. -/
def swaps (l : List Nat) (p q : Nat → Nat) : Nat → List Nat
  | 0 => l
  | k + 1 => ((swaps l p q k).set (p k) ((swaps l p q k).getD (q k) 0)).set (q k) ((swaps l p q k).getD (p k) 0)
@[simp] theorem swaps_length (l : List Nat) (p q : Nat → Nat) : ∀ k, (swaps l p q k).length = l.length
  | 0 => rfl
  | k + 1 => by unfold swaps; rw [List.length_set, List.length_set, swaps_length l p q k]
/-- move.Rows: the error's number; the list behind it. -/
def rowsOk (m : MatM) (i k : Int) : Bool := m.good && decide (0 ≤ i) && decide (0 ≤ k) && decide (i < m.rows) && decide (k < m.rows)
def rowsE (m : MatM) (i k : Int) : Int := if rowsOk m i k = true then 0 else 1
def rowsL (m : MatM) (i k : Int) : List Nat := if rowsOk m i k = true ∧ i ≠ k then swaps m.ws (rowV m i.toNat).place (rowV m k.toNat).place m.cols.toNat else m.ws
end Go.Proofs.Ytcmggfpcbijcjaa
end
section
/-
  How the laws' arguments read: slices of floats and of integers, vectors, matrices.
-/
set_option linter.unusedSimpArgs false
set_option linter.unusedVariables false
namespace Sedge
open Go Go.RowKit Go.ChangeShapes Go.WideShapes Go.Deep

/-- The slice v reads, in w, as the integers zs of a kind. -/
def IS (k : IntKind) (w : World) (v : Value) (zs : List Int) : Prop :=
  zs.length ≤ 9223372036854775807 ∧ ∃ a cap, v = .slice a zs.length cap ∧
    ∀ i, i < zs.length → ∃ blk o, a = some ⟨blk, o, none⟩ ∧ w.cell? ⟨blk, o + i, none⟩ = some (.int k (zs.getD i 0))
theorem IS.len {k : IntKind} {w : World} {v : Value} {zs : List Int} (h : IS k w v zs) : zs.length ≤ 9223372036854775807 := h.1
theorem IS.shape {k : IntKind} {w : World} {v : Value} {zs : List Int} (h : IS k w v zs) : ∃ a cap, v = .slice a zs.length cap := by
  obtain ⟨_, a, cap, rfl, _⟩ := h; exact ⟨a, cap, rfl⟩
theorem IS.at {k : IntKind} {w : World} {a : Option Addr} {n cap : Nat} {zs : List Int} (h : IS k w (.slice a n cap) zs) : n = zs.length ∧ (0 < zs.length → ∃ blk o, a = some ⟨blk, o, none⟩ ∧ blk < w.heap.size ∧
      ∀ i, i < zs.length → w.cell? ⟨blk, o + i, none⟩ = some (.int k (zs.getD i 0))) := by
  obtain ⟨_, a', cap', e, hc⟩ := h
  cases e
  refine ⟨rfl, fun hn => ?_⟩
  obtain ⟨blk, o, rfl, h1⟩ := hc 0 hn
  refine ⟨blk, o, rfl, World.block_lt_of_cell? w _ h1, fun i hi => ?_⟩
  obtain ⟨blk', o', he, h1'⟩ := hc i hi
  cases he
  exact h1'
theorem IS.same {k : IntKind} {w w' : World} {v : Value} {zs : List Int} (h : IS k w v zs) (hs : ∀ a : Addr, a.block < w.heap.size → w'.cell? a = w.cell? a) : IS k w' v zs := by
  obtain ⟨hl, a, cap, hv, hc⟩ := h
  refine ⟨hl, a, cap, hv, fun i hi => ?_⟩
  obtain ⟨blk, o, h0, h1⟩ := hc i hi
  exact ⟨blk, o, h0, by rw [hs _ (World.block_lt_of_cell? w _ h1)]; exact h1⟩
theorem IS.grew {k : IntKind} {w w' : World} {v : Value} {zs : List Int} (h : IS k w v zs) (g : Grew w w') : IS k w' v zs := h.same fun _ ha => g.below.cell ha
theorem IS.ext {k : IntKind} {w : World} {v : Value} {zs : List Int} (h : IS k w v zs) (o : Array Obj) (n : Nat) : IS k (ext w o n) v zs := h.grew ⟨_, _, rfl⟩
theorem IS.alloc {k : IntKind} {w : World} {v : Value} {zs : List Int} (h : IS k w v zs) (o : Obj) : IS k (w.alloc o) v zs := h.grew ((Grew.refl _).alloc o)

section
variable {H : Type} {enc : TypeId × Value → H} {P : Program} {w : World} {base : Nat} {spare : Nat → Bool} {held : Bool}

def bitsAt (w : World) (a : Addr) (i : Nat) : Nat := match w.cell? (a.add i) with
  | some (.float _ b) => b
  | _ => 0

theorem add_zero_addr (a : Addr) : a.add 0 = a := by simp [Addr.add]
theorem add_none {a : Addr} (h : a.spot = none) (i : Nat) : a.add i = ⟨a.block, a.off + i, none⟩ := by
  unfold Addr.add
  split
  · rename_i h0; subst h0; cases a; simp at h; subst h; rfl
  · rfl

theorem openI {k : IntKind} {t e : TypeId} {fuel : Nat} {v : Value} {x : DataW H × List MemPlace} (ht : P.underlying t = some (.slice e)) (he : P.underlying e = some (.int k)) (hc : P.cellsOf e = 1)
    (h : DataW.trod enc P w base spare held fuel t [v] = some x) : ∃ zs, IS k w v zs ∧ ∀ z ∈ zs, k.min ≤ z ∧ z ≤ k.max := by
  rcases DataW.trod_slice ht h with ⟨h0, _⟩ | ⟨a, len, cap, elems, rest, n, _, h0, _, _, hl, hm, hlen, hel, _, _⟩
  · obtain rfl : v = .slice none 0 0 := by simpa using h0
    exact ⟨[], ⟨by simp, none, 0, rfl, fun i hi => by simp at hi⟩, fun z hz => by simp at hz⟩
  · obtain rfl : v = .slice (some a) len cap := by simpa using h0
    have each : ∀ i, i < len → ∃ b, w.cell? (a.add i) = some (.int k b) ∧ (Lit.int k b).wf = true := by
      intro i hi
      have h1 := hel i hi
      rw [List.getElem?_eq_getElem (by omega), hc, Nat.mul_one, Option.bind_eq_some_iff] at h1
      obtain ⟨cs', hcs, hy⟩ := h1
      obtain ⟨b, rfl, _, hb⟩ := DataW.trod_int he hy
      exact ⟨b, cell_of_cells?_one hcs, hb⟩
    let f : Nat → Int := fun i => match w.cell? (a.add i) with | some (.int _ b) => b | _ => 0
    refine ⟨(List.range len).map f, ⟨by simp [maxLen] at hm ⊢; omega, some a, cap, by simp, fun i hi => ?_⟩, fun z hz => ?_⟩
    · have hi' : i < len := by simpa using hi
      obtain ⟨b0, hb0, _⟩ := each 0 (by omega)
      rw [add_zero_addr] at hb0
      have hs := World.cell?_spot hb0
      obtain ⟨b, hb, _⟩ := each i hi'
      refine ⟨a.block, a.off, ?_, ?_⟩
      · cases a; simp at hs; subst hs; rfl
      · rw [← add_none hs, hb]
        simp [List.getD_eq_getElem?_getD, hi', f, hb]
    · obtain ⟨i, hi, rfl⟩ := List.mem_map.1 hz
      obtain ⟨b, hb, hw⟩ := each i (by simpa using hi)
      have : f i = b := by simp only [f, hb]
      rw [this]
      simpa [Lit.wf] using hw
end
end Sedge
end
section
/-
  Contracts: the reference's rows that change places (layer 4); rows, one pair behind the other.
-/
set_option linter.unusedSimpArgs false
set_option linter.unusedVariables false
open Go Go.RowKit Sedge
namespace Go.Proofs.Ytcmggfpcbijcjaa
def rrowsL (C : Nat) (l : List Nat) (i k : Nat) : List Nat := swaps l (fun t => i * C + t) (fun t => k * C + t) C
@[simp] theorem rrowsL_length (C : Nat) (l : List Nat) (i k : Nat) : (rrowsL C l i k).length = l.length := by unfold rrowsL; simp
/-- The pairs (0, z0), (1, z1), ..: what is done to the table. -/
def rtakeTo (C : Nat) (l : List Nat) (zs : List Int) : Nat → List Nat
  | 0 => l
  | k + 1 => rrowsL C (rtakeTo C l zs k) k (zs.getD k 0).toNat
@[simp] theorem rtakeTo_length (C : Nat) (l : List Nat) (zs : List Int) : ∀ k, (rtakeTo C l zs k).length = l.length
  | 0 => rfl
  | k + 1 => by unfold rtakeTo; rw [rrowsL_length, rtakeTo_length C l zs k]
/-- Are the first k of the order in range? -/
def ordTo (R : Int) (zs : List Int) : Nat → Bool
  | 0 => true
  | k + 1 => ordTo R zs k && decide ((k : Int) ≤ zs.getD k 0) && decide (zs.getD k 0 < R)
def takeE (R : Int) (zs : List Int) : Int := if R < zs.length then 3 else if ordTo R zs zs.length = true then 0 else 1
def rtakeL (R C : Nat) (l : List Nat) (zs : List Int) : List Nat := if takeE R zs = 0 then rtakeTo C l zs zs.length else l
end Go.Proofs.Ytcmggfpcbijcjaa
end
section
/-
  Contract: move.Take (layer 4).
-/
set_option linter.unusedSimpArgs false
set_option linter.unusedVariables false
open Go Go.RowKit Sedge
namespace Go.Proofs.Ytcmggfpcbijcjaa
/-- The matrix over another list. -/
def withL (m : MatM) (l : List Nat) : MatM := ⟨l, m.off, m.rows, m.cols, m.ld⟩
theorem withL_good {m : MatM} {l : List Nat} (h : l.length = m.ws.length) : (withL m l).good = m.good := by unfold withL MatM.good; simp only [h]
@[simp] theorem rowsL_length (m : MatM) (i k : Int) : (rowsL m i k).length = m.ws.length := by unfold rowsL; split <;> simp
def mtakeTo (m : MatM) (zs : List Int) : Nat → List Nat
  | 0 => m.ws
  | k + 1 => rowsL (withL m (mtakeTo m zs k)) k (zs.getD k 0)
@[simp] theorem mtakeTo_length (m : MatM) (zs : List Int) : ∀ k, (mtakeTo m zs k).length = m.ws.length
  | 0 => rfl
  | k + 1 => by unfold mtakeTo; rw [rowsL_length]; exact mtakeTo_length m zs k
def mtakeE (m : MatM) (zs : List Int) : Int := if m.good = true then takeE m.rows zs else 1
def mtakeL (m : MatM) (zs : List Int) : List Nat := if mtakeE m zs = 0 then mtakeTo m zs zs.length else m.ws
end Go.Proofs.Ytcmggfpcbijcjaa
end
section
/-
  Plain: lists that hold a grid of numbers; rows that change places, in a matrix and in a table.
-/
set_option linter.unusedSimpArgs false
set_option linter.unusedVariables false
open Go Go.RowKit
namespace Sedge
open Go.Proofs.Ytcmggfpcbijcjaa (swaps)
/-- Places of a grid: each its own, all within n. -/
structure Places (p : Nat → Nat → Nat) (R C n : Nat) : Prop where
  lt : ∀ i j, i < R → j < C → p i j < n
  inj : ∀ i j i' j', i < R → j < C → i' < R → j' < C → p i j = p i' j' → i = i' ∧ j = j'
/-- l is l0, but at the grid's places it holds f. -/
structure Hold (p : Nat → Nat → Nat) (R C : Nat) (l0 l : List Nat) (f : Nat → Nat → Nat) : Prop where
  len : l.length = l0.length
  get : ∀ i j, i < R → j < C → l.getD (p i j) 0 = f i j
  rest : ∀ q, (∀ i j, i < R → j < C → p i j ≠ q) → l.getD q 0 = l0.getD q 0
section
variable {p : Nat → Nat → Nat} {R C : Nat} {l0 l l' : List Nat} {f g : Nat → Nat → Nat}
theorem getD_set_eq {l : List Nat} {k x : Nat} (h : k < l.length) : (l.set k x).getD k 0 = x := by
  simp [List.getD_eq_getElem?_getD, h]
theorem getD_set_ne' {l : List Nat} {k q x : Nat} (h : k ≠ q) : (l.set k x).getD q 0 = l.getD q 0 := by
  rw [List.getD_eq_getElem?_getD, List.getElem?_set_ne h, ← List.getD_eq_getElem?_getD]
theorem Hold.set (hp : Places p R C l0.length) (h : Hold p R C l0 l f) {i j x : Nat} (hi : i < R) (hj : j < C) :
    Hold p R C l0 (l.set (p i j) x) (fun r c => if r = i ∧ c = j then x else f r c) := by
  refine ⟨by rw [List.length_set, h.len], fun r c hr hc => ?_, fun q hq => ?_⟩
  · by_cases he : r = i ∧ c = j
    · obtain ⟨rfl, rfl⟩ := he
      rw [getD_set_eq (by rw [h.len]; exact hp.lt _ _ hr hc)]; simp
    · rw [getD_set_ne' (fun e => he ((hp.inj _ _ _ _ hi hj hr hc e).imp Eq.symm Eq.symm)), if_neg he]; exact h.get r c hr hc
  · rw [getD_set_ne' (hq i j hi hj)]; exact h.rest q hq
theorem Hold.congr (h : Hold p R C l0 l f) (hfg : ∀ i j, i < R → j < C → f i j = g i j) : Hold p R C l0 l g :=
  ⟨h.len, fun i j hi hj => (h.get i j hi hj).trans (hfg i j hi hj), h.rest⟩
def swapF (f : Nat → Nat → Nat) (i k j : Nat) (r c : Nat) : Nat := if c < j then (if r = i then f k c else if r = k then f i c else f r c) else f r c
/-- A good matrix' places. -/
theorem MatM.places {m : MatM} (h : m.good = true) : Places m.place m.rows.toNat m.cols.toNat m.ws.length := by
  have h0 := MatM.good_n h
  refine ⟨fun i j hi hj => ?_, fun i j i' j' hi hj hi' hj' he => ?_⟩
  · have := MatM.good_place h (i := i) (j := j) (by omega) (by omega)
    unfold MatM.place; omega
  · have h1 := MatM.good_place h (i := i) (j := j) (by omega) (by omega)
    have h2 := MatM.good_place h (i := i') (j := j') (by omega) (by omega)
    unfold MatM.place at he
    have e : (i : Int) + j * m.ld = i' + j' * m.ld := by omega
    have hj2 : j = j' := by
      rcases Nat.lt_trichotomy j j' with h3 | h3 | h3
      · have : ((j : Int) + 1) * m.ld ≤ j' * m.ld := Int.mul_le_mul_of_nonneg_right (by omega) (by omega)
        rw [Int.add_mul] at this; omega
      · exact h3
      · have : ((j' : Int) + 1) * m.ld ≤ j * m.ld := Int.mul_le_mul_of_nonneg_right (by omega) (by omega)
        rw [Int.add_mul] at this; omega
    subst hj2
    exact ⟨by omega, rfl⟩
theorem MatM.hold {m : MatM} : Hold m.place m.rows.toNat m.cols.toNat m.ws m.ws m.num := ⟨rfl, fun _ _ _ _ => rfl, fun _ _ => rfl⟩
@[simp] theorem MatM.tab_length (m : MatM) : m.tab.length = m.rows.toNat * m.cols.toNat := by simp [MatM.tab, MatM.tabTo]
end
end Sedge
open Sedge
namespace Go.Proofs.Ytcmggfpcbijcjaa
end Go.Proofs.Ytcmggfpcbijcjaa
end
section
/-
  Contracts: a table's numbers into a list; a vector's list; a list into a vector's places (reference of layer 3).
-/
set_option linter.unusedSimpArgs false
set_option linter.unusedVariables false
open Go Go.RowKit Sedge
namespace Go.Proofs.Ytcmggfpcbijcjaa
/-- The list as it is when a vector's numbers in it are others. -/
def VecMwriteTo (m : VecM) (l : List Nat) (k : Nat) : List Nat := writes m.ws m.place (fun t => l.getD t 0) k
def VecMwrite (m : VecM) (l : List Nat) : List Nat := VecMwriteTo m l (min m.n.toNat l.length)
end Go.Proofs.Ytcmggfpcbijcjaa
end
section
/-
  Plain: vectors that are copied and swapped, in one list or in two.
-/
set_option linter.unusedSimpArgs false
set_option linter.unusedVariables false
open Go.Proofs.Ytcmggfpcbijcjaa
namespace Sedge
theorem writes_other {l : List Nat} {p f : Nat → Nat} {q : Nat} : ∀ k, (∀ t, t < k → p t ≠ q) → (writes l p f k).getD q 0 = l.getD q 0
  | 0, _ => rfl
  | k + 1, h => by
    unfold writes
    rw [getD_set_ne' (h k (by omega))]
    exact writes_other k fun t ht => h t (by omega)
theorem writes_at {l : List Nat} {p f : Nat → Nat} : ∀ k, (∀ s t, s < k → t < k → p s = p t → s = t) → (∀ t, t < k → p t < l.length) → ∀ t, t < k → (writes l p f k).getD (p t) 0 = f t
  | 0, _, _, t, ht => absurd ht (by omega)
  | k + 1, hi, hl, t, ht => by
    unfold writes
    rcases Nat.lt_or_ge t k with h | h
    · rw [getD_set_ne' (fun e => by have := hi k t (by omega) (by omega) e; omega)]
      exact writes_at k (fun s t hs ht => hi s t (by omega) (by omega)) (fun t ht => hl t (by omega)) t h
    · obtain rfl : t = k := by omega
      exact getD_set_eq (by rw [writes_length]; exact hl t (by omega))
def withV (m : VecM) (l : List Nat) : VecM := ⟨l, m.off, m.n, m.inc⟩
theorem VecM.place_inj {m : VecM} (h : m.right = true) {s t : Nat} (hs : (s : Int) < m.n) (ht : (t : Int) < m.n) (e : m.place s = m.place t) : s = t := by
  have h1 := m.right_place h hs
  have h2 := m.right_place h ht
  have h3 := m.right_n h
  unfold VecM.place at e
  have e2 : (s : Int) * m.inc = t * m.inc := by omega
  have := Int.eq_of_mul_eq_mul_right (by omega) e2
  omega
theorem VecM.place_lt {m : VecM} (h : m.right = true) {s : Nat} (hs : (s : Int) < m.n) : m.place s < m.ws.length := by
  have h1 := m.right_place h hs
  unfold VecM.place; omega
/-- Do two vectors' places meet, of the first i of one? -/
def meetsTo (a b : VecM) (i : Nat) : Bool := (List.range i).any fun s => (List.range b.n.toNat).any fun t => decide (a.off + s * a.inc = b.off + t * b.inc)
def meetsB (a b : VecM) : Bool := meetsTo a b a.n.toNat
def hitTo (p : Int) (b : VecM) (k : Nat) : Bool := (List.range k).any fun t => decide (p = b.off + t * b.inc)
def pairE (a b : VecM) (one : Bool) : Int := if a.right = true ∧ b.right = true then (if a.n = b.n then (if one = true ∧ meetsB a b = true then 2 else 0) else 3) else 1
end Sedge
end
section
/-
  The worlds behind a place in the code: blocks of a list may be written, all else of what stood there stands.
-/
set_option linter.unusedSimpArgs false
set_option linter.unusedVariables false
namespace Sedge
open Go Go.RowKit
/-- What stood in V stands in w, but for the blocks of G. -/
structure But (V : World) (G : List Nat) (w : World) : Prop where
  os : w.os = V.os
  tape : w.tape = V.tape
  output : w.output = V.output
  size : V.heap.size ≤ w.heap.size
  block : ∀ k, k < V.heap.size → k ∉ G → w.heap[k]? = V.heap[k]?
section
variable {V w w' : World} {G : List Nat}
theorem But.refl (V : World) (G : List Nat) : But V G V := ⟨rfl, rfl, rfl, Nat.le_refl _, fun _ _ _ => rfl⟩
theorem But.grew (h : But V G w) (g : Grew w w') : But V G w' := by
  have b := g.below
  exact ⟨b.os.trans h.os, b.tape.trans h.tape, b.output.trans h.output, Nat.le_trans h.size b.size, fun k hk hG => (b.block k (Nat.lt_of_lt_of_le hk h.size)).trans (h.block k hk hG)⟩
theorem But.wrote {g : Nat} {ws : List Nat} (h : But V G w) (k : Wrote w w' g ws) (hg : g ∈ G ∨ V.heap.size ≤ g) : But V G w' := by
  obtain ⟨cs, o, n, rfl, _⟩ := k
  refine ⟨h.os, h.tape, h.output, ?_, fun k hk hG => ?_⟩
  · have := h.size; simp only [Sedge.ext, Array.size_append]; rw [size_upd]; omega
  · have hs := h.size
    have hne : k ≠ g := by
      rintro rfl
      rcases hg with hg | hg
      · exact hG hg
      · omega
    rw [block_ext (by rw [size_upd]; omega), block_upd_ne hne]
    exact h.block k hk hG
theorem But.upd {g : Nat} (h : But V G w) (hg : g ∈ G ∨ V.heap.size ≤ g) (cs : Array Value) : But V G (upd w g cs) := by
  refine ⟨h.os, h.tape, h.output, ?_, fun k hk hG => ?_⟩
  · rw [size_upd]; exact h.size
  · have hne : k ≠ g := by
      rintro rfl
      rcases hg with hg | hg
      · exact hG hg
      · omega
    rw [block_upd_ne hne]
    exact h.block k hk hG
theorem But.cell {b i : Nat} (h : But V G w) (hb : b < V.heap.size) (hG : b ∉ G) : w.cell? ⟨b, i, none⟩ = V.cell? ⟨b, i, none⟩ := by
  unfold World.cell?; simp only [h.block b hb hG]
theorem But.grew0 {W : World} (h : But V G w) (hW : Grew W V) (hG : ∀ k ∈ G, W.heap.size ≤ k) : Grew W w := by
  have b := hW.below
  refine Grew.of_below ⟨h.os.trans b.os, h.tape.trans b.tape, h.output.trans b.output, Nat.le_trans b.size h.size, fun k hk => ?_⟩
  exact (h.block k (Nat.lt_of_lt_of_le hk b.size) (fun hm => by have := hG k hm; omega)).trans (b.block k hk)
theorem But.fw {g : Nat} {ws : List Nat} (h : But V G w) (hF : FW V g ws) (hG : g ∉ G) : FW w g ws := hF.same (h.block g hF.lt hG)
theorem But.mono {G' : List Nat} (h : But V G w) (hs : ∀ k ∈ G, k ∈ G') : But V G' w := ⟨h.os, h.tape, h.output, h.size, fun k hk hn => h.block k hk (fun e => hn (hs k e))⟩
theorem But.trans {w'' : World} {H : List Nat} (h : But V G w) (k : But w H w'') (hH : ∀ b ∈ H, b ∈ G ∨ V.heap.size ≤ b) : But V G w'' :=
  ⟨k.os.trans h.os, k.tape.trans h.tape, k.output.trans h.output, Nat.le_trans h.size k.size, fun b hb hG => (k.block b (Nat.lt_of_lt_of_le hb h.size) (fun e => (hH b e).elim hG (fun h1 => by omega))).trans (h.block b hb hG)⟩
end
theorem cell_of_block {w : World} {p i : Nat} {cs : Array Value} {e : TypeId} {f : Nat × Nat} (h : w.heap[p]? = some (.cells cs e f)) : w.cell? ⟨p, i, none⟩ = cs[i]? := by
  unfold World.cell?; simp [h]
theorem But.fs {W V : World} {G : List Nat} {D : Value} {ws : List Nat} (gV : Grew W V) (h : FS W D ws) (hG : ∀ k ∈ G, W.heap.size ≤ k) : ∀ w', But V G w' → FS w' D ws :=
  fun _ hb => h.grew (hb.grew0 gV hG)
theorem But.is {W V : World} {G : List Nat} {D : Value} {k : IntKind} {zs : List Int} (gV : Grew W V) (h : IS k W D zs) (hG : ∀ k ∈ G, W.heap.size ≤ k) : ∀ w', But V G w' → IS k w' D zs :=
  fun _ hb => h.grew (hb.grew0 gV hG)
theorem FW.setc {w : World} {g : Nat} {ws : List Nat} (h : FW w g ws) {k r x : Nat} (hr : IsF r x) : FW (w.setCell ⟨g, k, none⟩ (.float .f64 r)) g (ws.set k x) := (h.wrote hr).fw h
theorem But.setc {V w : World} {G : List Nat} {g k r : Nat} {ws : List Nat} (h : But V G w) (hF : FW w g ws) (hg : g ∈ G) : But V G (w.setCell ⟨g, k, none⟩ (.float .f64 r)) := by
  obtain ⟨cs, h1, _⟩ := hF.self
  have : w.setCell ⟨g, k, none⟩ (.float .f64 r) = Sedge.upd w g (cs.setIfInBounds k (.float .f64 r)) := by rw [← setCell_upd, h1]
  rw [this]; exact h.upd (.inl hg) _
end Sedge
end
section
/-
  Contracts: straightedgeref03.List; move.meet, move.Pair, straightedgeref04.Pair.
-/
set_option linter.unusedSimpArgs false
set_option linter.unusedVariables false
open Go Go.RowKit Sedge
namespace Go.Proofs.Ytcmggfpcbijcjaa
theorem some_lt' {w : World} {p : Nat} {o : Obj} (h : w.heap[p]? = some o) : p < w.heap.size := (Array.getElem?_eq_some_iff.1 h).1
theorem info22 : ∃ j, Try.prog.info? 22 = some j ∧ j.size ≠ 0 := by
  have h := finfo.info
  cases hj : Try.prog.info? 22 with
  | none => rw [hj] at h; cases h
  | some j => rw [hj] at h; simp at h; exact ⟨j, rfl, by omega⟩
theorem und142 : Try.prog.underlying 142 = some (.pointer 22) := by kernel_rfl
@[go_sem] theorem eql_same (w : World) (a : Addr) : (binOp .eql 142 (.pointer (some a)) (.pointer (some a))).run Try.prog w = .ok (.bool true) w := by
  obtain ⟨j, hj, _⟩ := info22
  exact run_eql_ptr_same w a und142 hj
@[go_sem] theorem neq_same (w : World) (a : Addr) : (binOp .neq 142 (.pointer (some a)) (.pointer (some a))).run Try.prog w = .ok (.bool false) w := by
  obtain ⟨j, hj, _⟩ := info22
  have h : ∀ d : Nat, (Op.equalIn (d + 1) 142 (.pointer (some a)) (.pointer (some a))).run Try.prog w = .ok true w := fun d => by
    simp [Op.equalIn, run_underlying und142, sizeOf, typeInfo, hj, run_sameAddr_same]
  simp only [binOp]
  simp [Op.equal, Op.maxDepth, h 9999]
/-- Block b is a row of cells, nothing of it frozen. -/
def Plain (w : World) (b : Nat) : Prop := ∃ c e, w.heap[b]? = some (.cells c e (0, 0))
theorem FW.plain {w : World} {b : Nat} {ws : List Nat} (h : FW w b ws) : Plain w b := by obtain ⟨c, e, h, _⟩ := h; exact ⟨c, e, h⟩
theorem Plain.grew {w w' : World} {b : Nat} (h : Plain w b) (g : Grew w w') : Plain w' b := by
  obtain ⟨c, e, h⟩ := h; exact ⟨c, e, by rw [g.below.block b (some_lt' h)]; exact h⟩
theorem eql_other {w : World} {a b i j : Nat} (ha : Plain w a) (hb : Plain w b) (hne : a ≠ b) : (binOp .eql 142 (.pointer (some ⟨a, i, none⟩)) (.pointer (some ⟨b, j, none⟩))).run Try.prog w = .ok (.bool false) w := by
  obtain ⟨t, hj, hs⟩ := info22
  obtain ⟨ca, ta, ha⟩ := ha
  obtain ⟨cb, tb, hb⟩ := hb
  exact run_eql_ptr_other w und142 hj hs (by intro e; cases e; exact hne rfl) ha hb
def listTo (x : VecM) (k : Nat) : List Nat := (List.range k).map x.num
theorem VecM.right_nle {x : VecM} (hx : x.right = true) (hl : x.ws.length ≤ 1000000) : x.n ≤ 1000000 := by
  have hn := VecM.right_n hx
  rcases Int.lt_or_le 0 x.n with h | h
  · have h1 := VecM.right_place hx (i := (x.n - 1).toNat) (by omega)
    have h2 : ((x.n - 1).toNat : Int) * 1 ≤ ((x.n - 1).toNat : Int) * x.inc := Int.mul_le_mul_of_nonneg_left (by omega) (by omega)
    omega
  · omega
end Go.Proofs.Ytcmggfpcbijcjaa
end
section
/-
  Contracts: view.span, view.Meet; straightedgeref07.MatSpan, VecSpan, Spans.
-/
set_option linter.unusedSimpArgs false
set_option linter.unusedVariables false
open Go Go.RowKit Sedge
namespace Go.Proofs.Ytcmggfpcbijcjaa
def MatM.full (m : MatM) : Bool := m.good && !(m.rows == 0) && !(m.cols == 0)
def spanLo (m : MatM) : Int := if MatM.full m = true then m.off else 0
def spanHi (m : MatM) : Int := if MatM.full m = true then m.off + (m.cols - 1) * m.ld + m.rows - 1 else 0
theorem MatM.full_place {m : MatM} (h : MatM.full m = true) : m.good = true ∧ 1 ≤ m.rows ∧ 1 ≤ m.cols ∧ 0 ≤ (m.cols - 1) * m.ld ∧ 0 ≤ m.off ∧ m.off + (m.cols - 1) * m.ld + m.rows - 1 < m.ws.length := by
  unfold MatM.full at h
  simp only [Bool.and_eq_true, Bool.not_eq_true', beq_eq_false_iff_ne] at h
  obtain ⟨⟨h1, h2⟩, h3⟩ := h
  have hn := m.good_n h1
  have hp := MatM.good_place h1 (i := (m.rows - 1).toNat) (j := (m.cols - 1).toNat) (by omega) (by omega)
  rw [Int.toNat_of_nonneg (by omega), Int.toNat_of_nonneg (by omega)] at hp
  refine ⟨h1, by omega, by omega, hp.2.2, hn.2.2.1, by omega⟩
theorem ret_tuple3 {a b a' b' : Int} {c c' : Bool} (h1 : a = a') (h2 : b = b') (h3 : c = c') : Ending.returned (.tuple #[.int .i64 a, .int .i64 b, .bool c]) = .returned (.tuple #[.int .i64 a', .int .i64 b', .bool c']) := by rw [h1, h2, h3]
set_option maxRecDepth 100000 in
set_option maxHeartbeats 1000000 in
/-- view.span. -/
theorem span_any (x : MatM) (D : Value) (w : World) (hD : FS w D x.ws) (hwf : x.wf) (hl : x.ws.length ≤ 1000000) :
   Calls Try.prog 194 #[.agg #[D, .int .i64 x.off, .int .i64 x.rows, .int .i64 x.cols, .int .i64 x.ld]] w
     (fun e w' => e = .returned (.tuple #[.int .i64 (spanLo x), .int .i64 (spanHi x), .bool (MatM.full x)]) ∧ ∃ o n, w' = ext w o n) := by
  have Hw := hid hwf
  clear hwf
  cases hf : MatM.full x
  · have q1 := hid (show spanLo x = 0 by unfold spanLo; rw [hf]; rfl)
    have q2 := hid (show spanHi x = 0 by unfold spanHi; rw [hf]; rfl)
    cases hg : x.good
    · clear hf
      go_enter Try.func194, Try.ntmps194
      refine seq_stop ?_
      go_wp2
      refine stop_go (fun W hW => ?_)
      have s1 : w.heap.size < W.heap.size := by rw [hW]; simp only [World.size_alloc]; omega
      have b1 : ∀ i, W.cell? ⟨w.heap.size, i, none⟩ = (#[D, .int .i64 x.off, .int .i64 x.rows, .int .i64 x.cols, .int .i64 x.ld] : Array Value)[i]? := by intro i; rw [hW]; go_simp
      have g0 : Grew w W := by rw [hW]; exact (Grew.refl _).alloc _
      clear hW
      have hDW := hD.grew g0
      go_wp2_with (first | (go_at_call 130; ((with_reducible refine (good_any x _ _ ?_ Hw.out).mono ?_); (focus (first | (with_reducible assumption) | (with_reducible refine FS.ext ?_ _ _; with_reducible assumption) | (with_reducible refine IS.ext ?_ _ _; with_reducible assumption) | (refine hDu _ ?_; with_reducible assumption) | (refine hOu _ ?_; with_reducible assumption) | (refine hDa _ ?_; with_reducible assumption) | (refine hDb _ ?_; with_reducible assumption) | (refine hDc _ ?_; with_reducible assumption) | (refine hDd _ ?_; with_reducible assumption) | (refine FW.fs ?_ (by omega) _; with_reducible assumption) | (refine WS.fs ?_; with_reducible assumption) | (refine FW.fs ?_ (by omega) _; assumption) | omega | assumption)); rintro e w1 ⟨rfl, o1, n1, rfl⟩)))
      refine bodyPost_ret (v := .tuple #[.int .i64 0, .int .i64 0, .bool false]) (by simp [results, Try.results194, go_sem, *]) rfl ?_
      exact ⟨ret_tuple3 q1.out.symm q2.out.symm rfl, by (show Grew _ _; repeat (first | (with_reducible exact Grew.refl _) | (with_reducible assumption) | (with_reducible exact Grew.same_o) | (with_reducible exact Grew.app_o) | (with_reducible refine Grew.ext ?_ _ _) | (with_reducible refine Grew.alloc ?_ _) | ((with_reducible refine Grew.setCell ?_ ?_ _); rotate_left; (focus (dsimp only; first | omega | (simp only [size_ext, World.size_alloc, Array.size_append]; omega)))) | (with_reducible refine Grew.drewN ?_ _) | (with_reducible refine Grew.drew ?_)))⟩
    · cases hr : (x.rows == 0)
      · have hc : (x.cols == 0) = true := by
          unfold MatM.full at hf; rw [hg, hr] at hf; simpa using hf
        clear hf
        go_enter Try.func194, Try.ntmps194
        refine seq_stop ?_
        go_wp2
        refine stop_go (fun W hW => ?_)
        have s1 : w.heap.size < W.heap.size := by rw [hW]; simp only [World.size_alloc]; omega
        have b1 : ∀ i, W.cell? ⟨w.heap.size, i, none⟩ = (#[D, .int .i64 x.off, .int .i64 x.rows, .int .i64 x.cols, .int .i64 x.ld] : Array Value)[i]? := by intro i; rw [hW]; go_simp
        have g0 : Grew w W := by rw [hW]; exact (Grew.refl _).alloc _
        clear hW
        have hDW := hD.grew g0
        go_wp2_with (first | (go_at_call 130; ((with_reducible refine (good_any x _ _ ?_ Hw.out).mono ?_); (focus (first | (with_reducible assumption) | (with_reducible refine FS.ext ?_ _ _; with_reducible assumption) | (with_reducible refine IS.ext ?_ _ _; with_reducible assumption) | (refine hDu _ ?_; with_reducible assumption) | (refine hOu _ ?_; with_reducible assumption) | (refine hDa _ ?_; with_reducible assumption) | (refine hDb _ ?_; with_reducible assumption) | (refine hDc _ ?_; with_reducible assumption) | (refine hDd _ ?_; with_reducible assumption) | (refine FW.fs ?_ (by omega) _; with_reducible assumption) | (refine WS.fs ?_; with_reducible assumption) | (refine FW.fs ?_ (by omega) _; assumption) | omega | assumption)); rintro e w1 ⟨rfl, o1, n1, rfl⟩)))
        refine bodyPost_ret (v := .tuple #[.int .i64 0, .int .i64 0, .bool false]) (by simp [results, Try.results194, go_sem, *]) rfl ?_
        exact ⟨ret_tuple3 q1.out.symm q2.out.symm rfl, by (show Grew _ _; repeat (first | (with_reducible exact Grew.refl _) | (with_reducible assumption) | (with_reducible exact Grew.same_o) | (with_reducible exact Grew.app_o) | (with_reducible refine Grew.ext ?_ _ _) | (with_reducible refine Grew.alloc ?_ _) | ((with_reducible refine Grew.setCell ?_ ?_ _); rotate_left; (focus (dsimp only; first | omega | (simp only [size_ext, World.size_alloc, Array.size_append]; omega)))) | (with_reducible refine Grew.drewN ?_ _) | (with_reducible refine Grew.drew ?_)))⟩
      · clear hf
        go_enter Try.func194, Try.ntmps194
        refine seq_stop ?_
        go_wp2
        refine stop_go (fun W hW => ?_)
        have s1 : w.heap.size < W.heap.size := by rw [hW]; simp only [World.size_alloc]; omega
        have b1 : ∀ i, W.cell? ⟨w.heap.size, i, none⟩ = (#[D, .int .i64 x.off, .int .i64 x.rows, .int .i64 x.cols, .int .i64 x.ld] : Array Value)[i]? := by intro i; rw [hW]; go_simp
        have g0 : Grew w W := by rw [hW]; exact (Grew.refl _).alloc _
        clear hW
        have hDW := hD.grew g0
        go_wp2_with (first | (go_at_call 130; ((with_reducible refine (good_any x _ _ ?_ Hw.out).mono ?_); (focus (first | (with_reducible assumption) | (with_reducible refine FS.ext ?_ _ _; with_reducible assumption) | (with_reducible refine IS.ext ?_ _ _; with_reducible assumption) | (refine hDu _ ?_; with_reducible assumption) | (refine hOu _ ?_; with_reducible assumption) | (refine hDa _ ?_; with_reducible assumption) | (refine hDb _ ?_; with_reducible assumption) | (refine hDc _ ?_; with_reducible assumption) | (refine hDd _ ?_; with_reducible assumption) | (refine FW.fs ?_ (by omega) _; with_reducible assumption) | (refine WS.fs ?_; with_reducible assumption) | (refine FW.fs ?_ (by omega) _; assumption) | omega | assumption)); rintro e w1 ⟨rfl, o1, n1, rfl⟩)))
        refine bodyPost_ret (v := .tuple #[.int .i64 0, .int .i64 0, .bool false]) (by simp [results, Try.results194, go_sem, *]) rfl ?_
        exact ⟨ret_tuple3 q1.out.symm q2.out.symm rfl, by (show Grew _ _; repeat (first | (with_reducible exact Grew.refl _) | (with_reducible assumption) | (with_reducible exact Grew.same_o) | (with_reducible exact Grew.app_o) | (with_reducible refine Grew.ext ?_ _ _) | (with_reducible refine Grew.alloc ?_ _) | ((with_reducible refine Grew.setCell ?_ ?_ _); rotate_left; (focus (dsimp only; first | omega | (simp only [size_ext, World.size_alloc, Array.size_append]; omega)))) | (with_reducible refine Grew.drewN ?_ _) | (with_reducible refine Grew.drew ?_)))⟩
  · have hp := MatM.full_place hf
    have q1 := hid (show spanLo x = x.off by unfold spanLo; rw [hf]; rfl)
    have q2 := hid (show spanHi x = x.off + (x.cols - 1) * x.ld + x.rows - 1 by unfold spanHi; rw [hf]; rfl)
    have hg := hp.1
    have hr : (x.rows == 0) = false := by rw [beq_eq_false_iff_ne]; omega
    have hc : (x.cols == 0) = false := by rw [beq_eq_false_iff_ne]; omega
    have hwf := Hw.out
    obtain ⟨i1, i2, i3, i4⟩ := hwf
    unfold I64 at i1 i2 i3 i4
    have r1 : IntKind.i64.wrap (x.cols - 1) = x.cols - 1 := IntWalk.i64_in _ (by omega)
    have r2 : IntKind.i64.wrap ((x.cols - 1) * x.ld) = (x.cols - 1) * x.ld := IntWalk.i64_in _ (by omega)
    have r3 : IntKind.i64.wrap (x.off + (x.cols - 1) * x.ld) = x.off + (x.cols - 1) * x.ld := IntWalk.i64_in _ (by omega)
    have r4 : IntKind.i64.wrap (x.off + (x.cols - 1) * x.ld + x.rows) = x.off + (x.cols - 1) * x.ld + x.rows := IntWalk.i64_in _ (by omega)
    have r5 : IntKind.i64.wrap (x.off + (x.cols - 1) * x.ld + x.rows - 1) = x.off + (x.cols - 1) * x.ld + x.rows - 1 := IntWalk.i64_in _ (by omega)
    clear hf
    go_enter Try.func194, Try.ntmps194
    refine seq_stop ?_
    go_wp2
    refine stop_go (fun W hW => ?_)
    have s1 : w.heap.size < W.heap.size := by rw [hW]; simp only [World.size_alloc]; omega
    have b1 : ∀ i, W.cell? ⟨w.heap.size, i, none⟩ = (#[D, .int .i64 x.off, .int .i64 x.rows, .int .i64 x.cols, .int .i64 x.ld] : Array Value)[i]? := by intro i; rw [hW]; go_simp
    have g0 : Grew w W := by rw [hW]; exact (Grew.refl _).alloc _
    clear hW
    have hDW := hD.grew g0
    go_wp2_with (first | (go_at_call 130; ((with_reducible refine (good_any x _ _ ?_ Hw.out).mono ?_); (focus (first | (with_reducible assumption) | (with_reducible refine FS.ext ?_ _ _; with_reducible assumption) | (with_reducible refine IS.ext ?_ _ _; with_reducible assumption) | (refine hDu _ ?_; with_reducible assumption) | (refine hOu _ ?_; with_reducible assumption) | (refine hDa _ ?_; with_reducible assumption) | (refine hDb _ ?_; with_reducible assumption) | (refine hDc _ ?_; with_reducible assumption) | (refine hDd _ ?_; with_reducible assumption) | (refine FW.fs ?_ (by omega) _; with_reducible assumption) | (refine WS.fs ?_; with_reducible assumption) | (refine FW.fs ?_ (by omega) _; assumption) | omega | assumption)); rintro e w1 ⟨rfl, o1, n1, rfl⟩)))
    refine wp_region_R (Grew W) [] [(0,0), (0,1), (0,2), (0,3), (0,4), (0,5), (0,6), (0,7), (0,8), (0,9), (0,10), (0,11), (0,12), (0,13), (0,14), (0,15), (0,16), (0,17)] (by kernel_rfl) (by kernel_rfl) (fun _ _ _ _ h _ => h) (by first | exact ⟨_, _, ext_drew⟩ | exact ⟨_, _, drew_ext0⟩ | (show Grew _ _; repeat (first | (with_reducible exact Grew.refl _) | (with_reducible assumption) | (with_reducible exact Grew.same_o) | (with_reducible exact Grew.app_o) | (with_reducible refine Grew.ext ?_ _ _) | (with_reducible refine Grew.alloc ?_ _) | ((with_reducible refine Grew.setCell ?_ ?_ _); rotate_left; (focus (dsimp only; first | omega | (simp only [size_ext, World.size_alloc, Array.size_append]; omega)))) | (with_reducible refine Grew.drewN ?_ _) | (with_reducible refine Grew.drew ?_)))) ?_
    go_wp2_with (first | ((with_reducible refine wpR_id ?_); first | (refine wpR_take (v := ?_) rfl rfl ?_ ?_; rotate_left; (focus (rintro w' ⟨o', n', rfl⟩; go_simp; try with_reducible rfl)); simp only [Act.put, List.setIfInBounds_toArray, List.set_cons_zero, List.set_cons_succ]) | (refine wpR_pure (v := ?_) rfl rfl ?_ ?_; rotate_left; (focus (intro w'; go_simp; try with_reducible rfl)); simp only [Act.put, List.setIfInBounds_toArray, List.set_cons_zero, List.set_cons_succ]) | (refine wpR_takeG (v := ?_) rfl rfl rfl rfl rfl ?_ ?_; rotate_left; (focus (rintro w' ⟨o', n', rfl⟩; go_simp; try with_reducible rfl)); simp only [Act.put, List.setIfInBounds_toArray, List.set_cons_zero, List.set_cons_succ]) | (refine wpR_skip rfl rfl rfl rfl rfl rfl ?_; simp only [Act.put, List.setIfInBounds_toArray, List.set_cons_zero, List.set_cons_succ]) | (refine wpR_skipU rfl rfl rfl rfl rfl ?_; simp only [Act.put, List.setIfInBounds_toArray, List.set_cons_zero, List.set_cons_succ]) | (refine wpR_do rfl rfl (fun K hK => ?_)) | (refine wpR_doG rfl rfl rfl rfl rfl (fun K hK => ?_)) | (refine wpR_last rfl rfl (fun K hK => ?_)) | (refine wpR_nil ?_)) | ((with_reducible refine wpR_go ?_ ?_); (focus exact ⟨_, _, rfl⟩)) | ((with_reducible refine upon_id ?_); refine upon_fop rfl (by assumption) (by assumption) ?_; intro rr nn hr))
    refine bodyPost_ret (v := .tuple #[.int .i64 x.off, .int .i64 (x.off + (x.cols - 1) * x.ld + x.rows - 1), .bool true]) (by simp [results, Try.results194, go_sem, *]) rfl ?_
    exact ⟨ret_tuple3 q1.out.symm q2.out.symm rfl, by (show Grew _ _; repeat (first | (with_reducible exact Grew.refl _) | (with_reducible assumption) | (with_reducible exact Grew.same_o) | (with_reducible exact Grew.app_o) | (with_reducible refine Grew.ext ?_ _ _) | (with_reducible refine Grew.alloc ?_ _) | ((with_reducible refine Grew.setCell ?_ ?_ _); rotate_left; (focus (dsimp only; first | omega | (simp only [size_ext, World.size_alloc, Array.size_append]; omega)))) | (with_reducible refine Grew.drewN ?_ _) | (with_reducible refine Grew.drew ?_)))⟩
def meetM (x y : MatM) (one : Bool) : Bool := MatM.full x && MatM.full y && one && decide (spanLo x ≤ spanHi y) && decide (spanLo y ≤ spanHi x)
set_option maxRecDepth 100000 in
set_option maxHeartbeats 1000000 in
/-- view.Meet. -/
theorem meetM_any (x y : MatM) (a b ca cb : Nat) (w : World) (hA : FS w (.slice (some ⟨a, 0, none⟩) x.ws.length ca) x.ws) (hB : FS w (.slice (some ⟨b, 0, none⟩) y.ws.length cb) y.ws) (hPa : Plain w a) (hPb : Plain w b) (hwx : x.wf) (hwy : y.wf) (hlx : x.ws.length ≤ 1000000) (hly : y.ws.length ≤ 1000000) :
   Calls Try.prog 136 #[.agg #[.slice (some ⟨a, 0, none⟩) x.ws.length ca, .int .i64 x.off, .int .i64 x.rows, .int .i64 x.cols, .int .i64 x.ld], .agg #[.slice (some ⟨b, 0, none⟩) y.ws.length cb, .int .i64 y.off, .int .i64 y.rows, .int .i64 y.cols, .int .i64 y.ld]] w
     (fun e w' => e = .returned (.bool (meetM x y (decide (a = b)))) ∧ ∃ o n, w' = ext w o n) := by
  have Hwx := hid hwx
  have Hwy := hid hwy
  clear hwx hwy
  have hne : ∀ W', Grew w W' → a ≠ b → (binOp .eql 142 (.pointer (some ⟨a, 0, none⟩)) (.pointer (some ⟨b, 0, none⟩))).run Try.prog W' = .ok (.bool false) W' := fun W' g h => eql_other (hPa.grew g) (hPb.grew g) h
  obtain ⟨l1, hl1⟩ : ∃ z, Hid (z = spanLo x) := ⟨_, hid rfl⟩
  obtain ⟨h1, hh1⟩ : ∃ z, Hid (z = spanHi x) := ⟨_, hid rfl⟩
  obtain ⟨l2, hl2⟩ : ∃ z, Hid (z = spanLo y) := ⟨_, hid rfl⟩
  obtain ⟨h2, hh2⟩ : ∃ z, Hid (z = spanHi y) := ⟨_, hid rfl⟩
  have hM : ∀ one, meetM x y one = (MatM.full x && MatM.full y && one && decide (l1 ≤ h2) && decide (l2 ≤ h1)) := fun one => by unfold meetM; rw [hl1.out, hh1.out, hl2.out, hh2.out]
  have sx : ∀ w', FS w' (.slice (some ⟨a, 0, none⟩) x.ws.length ca) x.ws → Calls Try.prog 194 #[.agg #[.slice (some ⟨a, 0, none⟩) x.ws.length ca, .int .i64 x.off, .int .i64 x.rows, .int .i64 x.cols, .int .i64 x.ld]] w' (fun e w2 => e = .returned (.tuple #[.int .i64 l1, .int .i64 h1, .bool (MatM.full x)]) ∧ ∃ o n, w2 = ext w' o n) := fun w' h => by
    rw [hl1.out, hh1.out]; exact span_any x _ w' h Hwx.out hlx
  have sy : ∀ w', FS w' (.slice (some ⟨b, 0, none⟩) y.ws.length cb) y.ws → Calls Try.prog 194 #[.agg #[.slice (some ⟨b, 0, none⟩) y.ws.length cb, .int .i64 y.off, .int .i64 y.rows, .int .i64 y.cols, .int .i64 y.ld]] w' (fun e w2 => e = .returned (.tuple #[.int .i64 l2, .int .i64 h2, .bool (MatM.full y)]) ∧ ∃ o n, w2 = ext w' o n) := fun w' h => by
    rw [hl2.out, hh2.out]; exact span_any y _ w' h Hwy.out hly
  have px : MatM.full x = true → 0 < x.ws.length := fun h => by have := MatM.full_place h; omega
  have py : MatM.full y = true → 0 < y.ws.length := fun h => by have := MatM.full_place h; omega
  cases fx : MatM.full x
  · have q := hid (show meetM x y (decide (a = b)) = false by rw [hM, fx]; rfl)
    clear hM px py hne
    go_enter Try.func136, Try.ntmps136
    refine seq_stop ?_
    go_wp2
    refine stop_go (fun W hW => ?_)
    have s1 : w.heap.size < W.heap.size := by rw [hW]; simp only [World.size_alloc]; omega
    have b1 : ∀ i, W.cell? ⟨w.heap.size, i, none⟩ = (#[.slice (some ⟨a, 0, none⟩) x.ws.length ca, .int .i64 x.off, .int .i64 x.rows, .int .i64 x.cols, .int .i64 x.ld] : Array Value)[i]? := by intro i; rw [hW]; go_simp
    have s2 : w.heap.size + 1 < W.heap.size := by rw [hW]; simp only [World.size_alloc]; omega
    have b2 : ∀ i, W.cell? ⟨w.heap.size + 1, i, none⟩ = (#[.slice (some ⟨b, 0, none⟩) y.ws.length cb, .int .i64 y.off, .int .i64 y.rows, .int .i64 y.cols, .int .i64 y.ld] : Array Value)[i]? := by intro i; rw [hW]; go_simp
    have g0 : Grew w W := by rw [hW]; exact ((Grew.refl _).alloc _).alloc _
    clear hW
    have hAW := hA.grew g0
    have hBW := hB.grew g0
    go_wp2_with (first | (go_at_call 194; ((with_reducible refine (sx _ ?_).mono ?_); (focus (first | (with_reducible assumption) | (with_reducible refine FS.ext ?_ _ _; with_reducible assumption) | (with_reducible refine IS.ext ?_ _ _; with_reducible assumption) | (refine hDu _ ?_; with_reducible assumption) | (refine hOu _ ?_; with_reducible assumption) | (refine hDa _ ?_; with_reducible assumption) | (refine hDb _ ?_; with_reducible assumption) | (refine hDc _ ?_; with_reducible assumption) | (refine hDd _ ?_; with_reducible assumption) | (refine FW.fs ?_ (by omega) _; with_reducible assumption) | (refine WS.fs ?_; with_reducible assumption) | (refine FW.fs ?_ (by omega) _; assumption) | omega | assumption)); rintro e w1 ⟨rfl, o1, n1, rfl⟩)) | (go_at_call 194; ((with_reducible refine (sy _ ?_).mono ?_); (focus (first | (with_reducible assumption) | (with_reducible refine FS.ext ?_ _ _; with_reducible assumption) | (with_reducible refine IS.ext ?_ _ _; with_reducible assumption) | (refine hDu _ ?_; with_reducible assumption) | (refine hOu _ ?_; with_reducible assumption) | (refine hDa _ ?_; with_reducible assumption) | (refine hDb _ ?_; with_reducible assumption) | (refine hDc _ ?_; with_reducible assumption) | (refine hDd _ ?_; with_reducible assumption) | (refine FW.fs ?_ (by omega) _; with_reducible assumption) | (refine WS.fs ?_; with_reducible assumption) | (refine FW.fs ?_ (by omega) _; assumption) | omega | assumption)); rintro e w1 ⟨rfl, o2, n2, rfl⟩)))
    skip
    refine wp_region_R (Grew W) [] [(0,0), (0,1), (0,2), (0,3), (0,4), (0,5), (0,6), (0,7), (0,8), (0,9), (0,10), (0,11), (0,12), (0,13), (0,14), (0,15), (0,16), (0,17), (0,18), (0,19), (0,20), (0,21), (0,22), (0,23)] (by kernel_rfl) (by kernel_rfl) (fun _ _ _ _ h _ => h) (by first | exact ⟨_, _, ext_drew⟩ | exact ⟨_, _, drew_ext0⟩ | (show Grew _ _; repeat (first | (with_reducible exact Grew.refl _) | (with_reducible assumption) | (with_reducible exact Grew.same_o) | (with_reducible exact Grew.app_o) | (with_reducible refine Grew.ext ?_ _ _) | (with_reducible refine Grew.alloc ?_ _) | ((with_reducible refine Grew.setCell ?_ ?_ _); rotate_left; (focus (dsimp only; first | omega | (simp only [size_ext, World.size_alloc, Array.size_append]; omega)))) | (with_reducible refine Grew.drewN ?_ _) | (with_reducible refine Grew.drew ?_)))) ?_
    go_wp2_with (first | ((with_reducible refine wpR_id ?_); first | (refine wpR_take (v := ?_) rfl rfl ?_ ?_; rotate_left; (focus (rintro w' ⟨o', n', rfl⟩; go_simp; try with_reducible rfl)); simp only [Act.put, List.setIfInBounds_toArray, List.set_cons_zero, List.set_cons_succ]) | (refine wpR_pure (v := ?_) rfl rfl ?_ ?_; rotate_left; (focus (intro w'; go_simp; try with_reducible rfl)); simp only [Act.put, List.setIfInBounds_toArray, List.set_cons_zero, List.set_cons_succ]) | (refine wpR_takeG (v := ?_) rfl rfl rfl rfl rfl ?_ ?_; rotate_left; (focus (rintro w' ⟨o', n', rfl⟩; go_simp; try with_reducible rfl)); simp only [Act.put, List.setIfInBounds_toArray, List.set_cons_zero, List.set_cons_succ]) | (refine wpR_skip rfl rfl rfl rfl rfl rfl ?_; simp only [Act.put, List.setIfInBounds_toArray, List.set_cons_zero, List.set_cons_succ]) | (refine wpR_skipU rfl rfl rfl rfl rfl ?_; simp only [Act.put, List.setIfInBounds_toArray, List.set_cons_zero, List.set_cons_succ]) | (refine wpR_do rfl rfl (fun K hK => ?_)) | (refine wpR_doG rfl rfl rfl rfl rfl (fun K hK => ?_)) | (refine wpR_last rfl rfl (fun K hK => ?_)) | (refine wpR_nil ?_)) | ((with_reducible refine wpR_go ?_ ?_); (focus exact ⟨_, _, rfl⟩)) | ((with_reducible refine upon_id ?_); refine upon_fop rfl (by assumption) (by assumption) ?_; intro rr nn hr))
    go_ret
    exact ⟨ret_bool q.out.symm, by (show Grew _ _; repeat (first | (with_reducible exact Grew.refl _) | (with_reducible assumption) | (with_reducible exact Grew.same_o) | (with_reducible exact Grew.app_o) | (with_reducible refine Grew.ext ?_ _ _) | (with_reducible refine Grew.alloc ?_ _) | ((with_reducible refine Grew.setCell ?_ ?_ _); rotate_left; (focus (dsimp only; first | omega | (simp only [size_ext, World.size_alloc, Array.size_append]; omega)))) | (with_reducible refine Grew.drewN ?_ _) | (with_reducible refine Grew.drew ?_)))⟩
  · cases fy : MatM.full y
    · have q := hid (show meetM x y (decide (a = b)) = false by rw [hM, fx, fy]; rfl)
      clear hM px py hne
      go_enter Try.func136, Try.ntmps136
      refine seq_stop ?_
      go_wp2
      refine stop_go (fun W hW => ?_)
      have s1 : w.heap.size < W.heap.size := by rw [hW]; simp only [World.size_alloc]; omega
      have b1 : ∀ i, W.cell? ⟨w.heap.size, i, none⟩ = (#[.slice (some ⟨a, 0, none⟩) x.ws.length ca, .int .i64 x.off, .int .i64 x.rows, .int .i64 x.cols, .int .i64 x.ld] : Array Value)[i]? := by intro i; rw [hW]; go_simp
      have s2 : w.heap.size + 1 < W.heap.size := by rw [hW]; simp only [World.size_alloc]; omega
      have b2 : ∀ i, W.cell? ⟨w.heap.size + 1, i, none⟩ = (#[.slice (some ⟨b, 0, none⟩) y.ws.length cb, .int .i64 y.off, .int .i64 y.rows, .int .i64 y.cols, .int .i64 y.ld] : Array Value)[i]? := by intro i; rw [hW]; go_simp
      have g0 : Grew w W := by rw [hW]; exact ((Grew.refl _).alloc _).alloc _
      clear hW
      have hAW := hA.grew g0
      have hBW := hB.grew g0
      go_wp2_with (first | (go_at_call 194; ((with_reducible refine (sx _ ?_).mono ?_); (focus (first | (with_reducible assumption) | (with_reducible refine FS.ext ?_ _ _; with_reducible assumption) | (with_reducible refine IS.ext ?_ _ _; with_reducible assumption) | (refine hDu _ ?_; with_reducible assumption) | (refine hOu _ ?_; with_reducible assumption) | (refine hDa _ ?_; with_reducible assumption) | (refine hDb _ ?_; with_reducible assumption) | (refine hDc _ ?_; with_reducible assumption) | (refine hDd _ ?_; with_reducible assumption) | (refine FW.fs ?_ (by omega) _; with_reducible assumption) | (refine WS.fs ?_; with_reducible assumption) | (refine FW.fs ?_ (by omega) _; assumption) | omega | assumption)); rintro e w1 ⟨rfl, o1, n1, rfl⟩)) | (go_at_call 194; ((with_reducible refine (sy _ ?_).mono ?_); (focus (first | (with_reducible assumption) | (with_reducible refine FS.ext ?_ _ _; with_reducible assumption) | (with_reducible refine IS.ext ?_ _ _; with_reducible assumption) | (refine hDu _ ?_; with_reducible assumption) | (refine hOu _ ?_; with_reducible assumption) | (refine hDa _ ?_; with_reducible assumption) | (refine hDb _ ?_; with_reducible assumption) | (refine hDc _ ?_; with_reducible assumption) | (refine hDd _ ?_; with_reducible assumption) | (refine FW.fs ?_ (by omega) _; with_reducible assumption) | (refine WS.fs ?_; with_reducible assumption) | (refine FW.fs ?_ (by omega) _; assumption) | omega | assumption)); rintro e w1 ⟨rfl, o2, n2, rfl⟩)))
      skip
      refine wp_region_R (Grew W) [] [(0,0), (0,1), (0,2), (0,3), (0,4), (0,5), (0,6), (0,7), (0,8), (0,9), (0,10), (0,11), (0,12), (0,13), (0,14), (0,15), (0,16), (0,17), (0,18), (0,19), (0,20), (0,21), (0,22), (0,23)] (by kernel_rfl) (by kernel_rfl) (fun _ _ _ _ h _ => h) (by first | exact ⟨_, _, ext_drew⟩ | exact ⟨_, _, drew_ext0⟩ | (show Grew _ _; repeat (first | (with_reducible exact Grew.refl _) | (with_reducible assumption) | (with_reducible exact Grew.same_o) | (with_reducible exact Grew.app_o) | (with_reducible refine Grew.ext ?_ _ _) | (with_reducible refine Grew.alloc ?_ _) | ((with_reducible refine Grew.setCell ?_ ?_ _); rotate_left; (focus (dsimp only; first | omega | (simp only [size_ext, World.size_alloc, Array.size_append]; omega)))) | (with_reducible refine Grew.drewN ?_ _) | (with_reducible refine Grew.drew ?_)))) ?_
      go_wp2_with (first | ((with_reducible refine wpR_id ?_); first | (refine wpR_take (v := ?_) rfl rfl ?_ ?_; rotate_left; (focus (rintro w' ⟨o', n', rfl⟩; go_simp; try with_reducible rfl)); simp only [Act.put, List.setIfInBounds_toArray, List.set_cons_zero, List.set_cons_succ]) | (refine wpR_pure (v := ?_) rfl rfl ?_ ?_; rotate_left; (focus (intro w'; go_simp; try with_reducible rfl)); simp only [Act.put, List.setIfInBounds_toArray, List.set_cons_zero, List.set_cons_succ]) | (refine wpR_takeG (v := ?_) rfl rfl rfl rfl rfl ?_ ?_; rotate_left; (focus (rintro w' ⟨o', n', rfl⟩; go_simp; try with_reducible rfl)); simp only [Act.put, List.setIfInBounds_toArray, List.set_cons_zero, List.set_cons_succ]) | (refine wpR_skip rfl rfl rfl rfl rfl rfl ?_; simp only [Act.put, List.setIfInBounds_toArray, List.set_cons_zero, List.set_cons_succ]) | (refine wpR_skipU rfl rfl rfl rfl rfl ?_; simp only [Act.put, List.setIfInBounds_toArray, List.set_cons_zero, List.set_cons_succ]) | (refine wpR_do rfl rfl (fun K hK => ?_)) | (refine wpR_doG rfl rfl rfl rfl rfl (fun K hK => ?_)) | (refine wpR_last rfl rfl (fun K hK => ?_)) | (refine wpR_nil ?_)) | ((with_reducible refine wpR_go ?_ ?_); (focus exact ⟨_, _, rfl⟩)) | ((with_reducible refine upon_id ?_); refine upon_fop rfl (by assumption) (by assumption) ?_; intro rr nn hr))
      go_ret
      exact ⟨ret_bool q.out.symm, by (show Grew _ _; repeat (first | (with_reducible exact Grew.refl _) | (with_reducible assumption) | (with_reducible exact Grew.same_o) | (with_reducible exact Grew.app_o) | (with_reducible refine Grew.ext ?_ _ _) | (with_reducible refine Grew.alloc ?_ _) | ((with_reducible refine Grew.setCell ?_ ?_ _); rotate_left; (focus (dsimp only; first | omega | (simp only [size_ext, World.size_alloc, Array.size_append]; omega)))) | (with_reducible refine Grew.drewN ?_ _) | (with_reducible refine Grew.drew ?_)))⟩
    · have lx := px fx
      have ly := py fy
      by_cases hab : a = b
      · have hpe : ∀ W', (binOp .eql 142 (.pointer (some ⟨a, 0, none⟩)) (.pointer (some ⟨b, 0, none⟩))).run Try.prog W' = .ok (.bool true) W' := fun W' => by subst hab; exact eql_same W' _
        by_cases c1 : l1 ≤ h2
        · by_cases c2 : l2 ≤ h1
          · have q := hid (show meetM x y (decide (a = b)) = true by rw [hM, fx, fy]; simp [c1, c2, hab])
            have d1 : decide (l1 ≤ h2) = true := by simpa using c1
            have d2 : decide (l2 ≤ h1) = true := by simpa using c2
            clear hM px py hne hab
            go_enter Try.func136, Try.ntmps136
            refine seq_stop ?_
            go_wp2
            refine stop_go (fun W hW => ?_)
            have s1 : w.heap.size < W.heap.size := by rw [hW]; simp only [World.size_alloc]; omega
            have b1 : ∀ i, W.cell? ⟨w.heap.size, i, none⟩ = (#[.slice (some ⟨a, 0, none⟩) x.ws.length ca, .int .i64 x.off, .int .i64 x.rows, .int .i64 x.cols, .int .i64 x.ld] : Array Value)[i]? := by intro i; rw [hW]; go_simp
            have s2 : w.heap.size + 1 < W.heap.size := by rw [hW]; simp only [World.size_alloc]; omega
            have b2 : ∀ i, W.cell? ⟨w.heap.size + 1, i, none⟩ = (#[.slice (some ⟨b, 0, none⟩) y.ws.length cb, .int .i64 y.off, .int .i64 y.rows, .int .i64 y.cols, .int .i64 y.ld] : Array Value)[i]? := by intro i; rw [hW]; go_simp
            have g0 : Grew w W := by rw [hW]; exact ((Grew.refl _).alloc _).alloc _
            clear hW
            have hAW := hA.grew g0
            have hBW := hB.grew g0
            go_wp2_with (first | (go_at_call 194; ((with_reducible refine (sx _ ?_).mono ?_); (focus (first | (with_reducible assumption) | (with_reducible refine FS.ext ?_ _ _; with_reducible assumption) | (with_reducible refine IS.ext ?_ _ _; with_reducible assumption) | (refine hDu _ ?_; with_reducible assumption) | (refine hOu _ ?_; with_reducible assumption) | (refine hDa _ ?_; with_reducible assumption) | (refine hDb _ ?_; with_reducible assumption) | (refine hDc _ ?_; with_reducible assumption) | (refine hDd _ ?_; with_reducible assumption) | (refine FW.fs ?_ (by omega) _; with_reducible assumption) | (refine WS.fs ?_; with_reducible assumption) | (refine FW.fs ?_ (by omega) _; assumption) | omega | assumption)); rintro e w1 ⟨rfl, o1, n1, rfl⟩)) | (go_at_call 194; ((with_reducible refine (sy _ ?_).mono ?_); (focus (first | (with_reducible assumption) | (with_reducible refine FS.ext ?_ _ _; with_reducible assumption) | (with_reducible refine IS.ext ?_ _ _; with_reducible assumption) | (refine hDu _ ?_; with_reducible assumption) | (refine hOu _ ?_; with_reducible assumption) | (refine hDa _ ?_; with_reducible assumption) | (refine hDb _ ?_; with_reducible assumption) | (refine hDc _ ?_; with_reducible assumption) | (refine hDd _ ?_; with_reducible assumption) | (refine FW.fs ?_ (by omega) _; with_reducible assumption) | (refine WS.fs ?_; with_reducible assumption) | (refine FW.fs ?_ (by omega) _; assumption) | omega | assumption)); rintro e w1 ⟨rfl, o2, n2, rfl⟩)))
            skip
            refine wp_region_R (Grew W) [] [(0,0), (0,1), (0,2), (0,3), (0,4), (0,5), (0,6), (0,7), (0,8), (0,9), (0,10), (0,11), (0,12), (0,13), (0,14), (0,15), (0,16), (0,17), (0,18), (0,19), (0,20), (0,21), (0,22), (0,23)] (by kernel_rfl) (by kernel_rfl) (fun _ _ _ _ h _ => h) (by first | exact ⟨_, _, ext_drew⟩ | exact ⟨_, _, drew_ext0⟩ | (show Grew _ _; repeat (first | (with_reducible exact Grew.refl _) | (with_reducible assumption) | (with_reducible exact Grew.same_o) | (with_reducible exact Grew.app_o) | (with_reducible refine Grew.ext ?_ _ _) | (with_reducible refine Grew.alloc ?_ _) | ((with_reducible refine Grew.setCell ?_ ?_ _); rotate_left; (focus (dsimp only; first | omega | (simp only [size_ext, World.size_alloc, Array.size_append]; omega)))) | (with_reducible refine Grew.drewN ?_ _) | (with_reducible refine Grew.drew ?_)))) ?_
            go_wp2_with (first | ((with_reducible refine wpR_id ?_); first | (refine wpR_take (v := ?_) rfl rfl ?_ ?_; rotate_left; (focus (rintro w' ⟨o', n', rfl⟩; go_simp; try with_reducible rfl)); simp only [Act.put, List.setIfInBounds_toArray, List.set_cons_zero, List.set_cons_succ]) | (refine wpR_pure (v := ?_) rfl rfl ?_ ?_; rotate_left; (focus (intro w'; go_simp; try with_reducible rfl)); simp only [Act.put, List.setIfInBounds_toArray, List.set_cons_zero, List.set_cons_succ]) | (refine wpR_takeG (v := ?_) rfl rfl rfl rfl rfl ?_ ?_; rotate_left; (focus (rintro w' ⟨o', n', rfl⟩; go_simp; try with_reducible rfl)); simp only [Act.put, List.setIfInBounds_toArray, List.set_cons_zero, List.set_cons_succ]) | (refine wpR_skip rfl rfl rfl rfl rfl rfl ?_; simp only [Act.put, List.setIfInBounds_toArray, List.set_cons_zero, List.set_cons_succ]) | (refine wpR_skipU rfl rfl rfl rfl rfl ?_; simp only [Act.put, List.setIfInBounds_toArray, List.set_cons_zero, List.set_cons_succ]) | (refine wpR_do rfl rfl (fun K hK => ?_)) | (refine wpR_doG rfl rfl rfl rfl rfl (fun K hK => ?_)) | (refine wpR_last rfl rfl (fun K hK => ?_)) | (refine wpR_nil ?_)) | ((with_reducible refine wpR_go ?_ ?_); (focus exact ⟨_, _, rfl⟩)) | ((with_reducible refine upon_id ?_); refine upon_fop rfl (by assumption) (by assumption) ?_; intro rr nn hr))
            go_ret
            exact ⟨ret_bool q.out.symm, by (show Grew _ _; repeat (first | (with_reducible exact Grew.refl _) | (with_reducible assumption) | (with_reducible exact Grew.same_o) | (with_reducible exact Grew.app_o) | (with_reducible refine Grew.ext ?_ _ _) | (with_reducible refine Grew.alloc ?_ _) | ((with_reducible refine Grew.setCell ?_ ?_ _); rotate_left; (focus (dsimp only; first | omega | (simp only [size_ext, World.size_alloc, Array.size_append]; omega)))) | (with_reducible refine Grew.drewN ?_ _) | (with_reducible refine Grew.drew ?_)))⟩
          · have q := hid (show meetM x y (decide (a = b)) = false by rw [hM, fx, fy]; simp [c2])
            have d1 : decide (l1 ≤ h2) = true := by simpa using c1
            have d2 : decide (l2 ≤ h1) = false := by simpa using c2
            clear hM px py hne hab
            go_enter Try.func136, Try.ntmps136
            refine seq_stop ?_
            go_wp2
            refine stop_go (fun W hW => ?_)
            have s1 : w.heap.size < W.heap.size := by rw [hW]; simp only [World.size_alloc]; omega
            have b1 : ∀ i, W.cell? ⟨w.heap.size, i, none⟩ = (#[.slice (some ⟨a, 0, none⟩) x.ws.length ca, .int .i64 x.off, .int .i64 x.rows, .int .i64 x.cols, .int .i64 x.ld] : Array Value)[i]? := by intro i; rw [hW]; go_simp
            have s2 : w.heap.size + 1 < W.heap.size := by rw [hW]; simp only [World.size_alloc]; omega
            have b2 : ∀ i, W.cell? ⟨w.heap.size + 1, i, none⟩ = (#[.slice (some ⟨b, 0, none⟩) y.ws.length cb, .int .i64 y.off, .int .i64 y.rows, .int .i64 y.cols, .int .i64 y.ld] : Array Value)[i]? := by intro i; rw [hW]; go_simp
            have g0 : Grew w W := by rw [hW]; exact ((Grew.refl _).alloc _).alloc _
            clear hW
            have hAW := hA.grew g0
            have hBW := hB.grew g0
            go_wp2_with (first | (go_at_call 194; ((with_reducible refine (sx _ ?_).mono ?_); (focus (first | (with_reducible assumption) | (with_reducible refine FS.ext ?_ _ _; with_reducible assumption) | (with_reducible refine IS.ext ?_ _ _; with_reducible assumption) | (refine hDu _ ?_; with_reducible assumption) | (refine hOu _ ?_; with_reducible assumption) | (refine hDa _ ?_; with_reducible assumption) | (refine hDb _ ?_; with_reducible assumption) | (refine hDc _ ?_; with_reducible assumption) | (refine hDd _ ?_; with_reducible assumption) | (refine FW.fs ?_ (by omega) _; with_reducible assumption) | (refine WS.fs ?_; with_reducible assumption) | (refine FW.fs ?_ (by omega) _; assumption) | omega | assumption)); rintro e w1 ⟨rfl, o1, n1, rfl⟩)) | (go_at_call 194; ((with_reducible refine (sy _ ?_).mono ?_); (focus (first | (with_reducible assumption) | (with_reducible refine FS.ext ?_ _ _; with_reducible assumption) | (with_reducible refine IS.ext ?_ _ _; with_reducible assumption) | (refine hDu _ ?_; with_reducible assumption) | (refine hOu _ ?_; with_reducible assumption) | (refine hDa _ ?_; with_reducible assumption) | (refine hDb _ ?_; with_reducible assumption) | (refine hDc _ ?_; with_reducible assumption) | (refine hDd _ ?_; with_reducible assumption) | (refine FW.fs ?_ (by omega) _; with_reducible assumption) | (refine WS.fs ?_; with_reducible assumption) | (refine FW.fs ?_ (by omega) _; assumption) | omega | assumption)); rintro e w1 ⟨rfl, o2, n2, rfl⟩)))
            skip
            refine wp_region_R (Grew W) [] [(0,0), (0,1), (0,2), (0,3), (0,4), (0,5), (0,6), (0,7), (0,8), (0,9), (0,10), (0,11), (0,12), (0,13), (0,14), (0,15), (0,16), (0,17), (0,18), (0,19), (0,20), (0,21), (0,22), (0,23)] (by kernel_rfl) (by kernel_rfl) (fun _ _ _ _ h _ => h) (by first | exact ⟨_, _, ext_drew⟩ | exact ⟨_, _, drew_ext0⟩ | (show Grew _ _; repeat (first | (with_reducible exact Grew.refl _) | (with_reducible assumption) | (with_reducible exact Grew.same_o) | (with_reducible exact Grew.app_o) | (with_reducible refine Grew.ext ?_ _ _) | (with_reducible refine Grew.alloc ?_ _) | ((with_reducible refine Grew.setCell ?_ ?_ _); rotate_left; (focus (dsimp only; first | omega | (simp only [size_ext, World.size_alloc, Array.size_append]; omega)))) | (with_reducible refine Grew.drewN ?_ _) | (with_reducible refine Grew.drew ?_)))) ?_
            go_wp2_with (first | ((with_reducible refine wpR_id ?_); first | (refine wpR_take (v := ?_) rfl rfl ?_ ?_; rotate_left; (focus (rintro w' ⟨o', n', rfl⟩; go_simp; try with_reducible rfl)); simp only [Act.put, List.setIfInBounds_toArray, List.set_cons_zero, List.set_cons_succ]) | (refine wpR_pure (v := ?_) rfl rfl ?_ ?_; rotate_left; (focus (intro w'; go_simp; try with_reducible rfl)); simp only [Act.put, List.setIfInBounds_toArray, List.set_cons_zero, List.set_cons_succ]) | (refine wpR_takeG (v := ?_) rfl rfl rfl rfl rfl ?_ ?_; rotate_left; (focus (rintro w' ⟨o', n', rfl⟩; go_simp; try with_reducible rfl)); simp only [Act.put, List.setIfInBounds_toArray, List.set_cons_zero, List.set_cons_succ]) | (refine wpR_skip rfl rfl rfl rfl rfl rfl ?_; simp only [Act.put, List.setIfInBounds_toArray, List.set_cons_zero, List.set_cons_succ]) | (refine wpR_skipU rfl rfl rfl rfl rfl ?_; simp only [Act.put, List.setIfInBounds_toArray, List.set_cons_zero, List.set_cons_succ]) | (refine wpR_do rfl rfl (fun K hK => ?_)) | (refine wpR_doG rfl rfl rfl rfl rfl (fun K hK => ?_)) | (refine wpR_last rfl rfl (fun K hK => ?_)) | (refine wpR_nil ?_)) | ((with_reducible refine wpR_go ?_ ?_); (focus exact ⟨_, _, rfl⟩)) | ((with_reducible refine upon_id ?_); refine upon_fop rfl (by assumption) (by assumption) ?_; intro rr nn hr))
            go_ret
            exact ⟨ret_bool q.out.symm, by (show Grew _ _; repeat (first | (with_reducible exact Grew.refl _) | (with_reducible assumption) | (with_reducible exact Grew.same_o) | (with_reducible exact Grew.app_o) | (with_reducible refine Grew.ext ?_ _ _) | (with_reducible refine Grew.alloc ?_ _) | ((with_reducible refine Grew.setCell ?_ ?_ _); rotate_left; (focus (dsimp only; first | omega | (simp only [size_ext, World.size_alloc, Array.size_append]; omega)))) | (with_reducible refine Grew.drewN ?_ _) | (with_reducible refine Grew.drew ?_)))⟩
        · have q := hid (show meetM x y (decide (a = b)) = false by rw [hM, fx, fy]; simp [c1])
          have d1 : decide (l1 ≤ h2) = false := by simpa using c1
          clear hM px py hne hab
          go_enter Try.func136, Try.ntmps136
          refine seq_stop ?_
          go_wp2
          refine stop_go (fun W hW => ?_)
          have s1 : w.heap.size < W.heap.size := by rw [hW]; simp only [World.size_alloc]; omega
          have b1 : ∀ i, W.cell? ⟨w.heap.size, i, none⟩ = (#[.slice (some ⟨a, 0, none⟩) x.ws.length ca, .int .i64 x.off, .int .i64 x.rows, .int .i64 x.cols, .int .i64 x.ld] : Array Value)[i]? := by intro i; rw [hW]; go_simp
          have s2 : w.heap.size + 1 < W.heap.size := by rw [hW]; simp only [World.size_alloc]; omega
          have b2 : ∀ i, W.cell? ⟨w.heap.size + 1, i, none⟩ = (#[.slice (some ⟨b, 0, none⟩) y.ws.length cb, .int .i64 y.off, .int .i64 y.rows, .int .i64 y.cols, .int .i64 y.ld] : Array Value)[i]? := by intro i; rw [hW]; go_simp
          have g0 : Grew w W := by rw [hW]; exact ((Grew.refl _).alloc _).alloc _
          clear hW
          have hAW := hA.grew g0
          have hBW := hB.grew g0
          go_wp2_with (first | (go_at_call 194; ((with_reducible refine (sx _ ?_).mono ?_); (focus (first | (with_reducible assumption) | (with_reducible refine FS.ext ?_ _ _; with_reducible assumption) | (with_reducible refine IS.ext ?_ _ _; with_reducible assumption) | (refine hDu _ ?_; with_reducible assumption) | (refine hOu _ ?_; with_reducible assumption) | (refine hDa _ ?_; with_reducible assumption) | (refine hDb _ ?_; with_reducible assumption) | (refine hDc _ ?_; with_reducible assumption) | (refine hDd _ ?_; with_reducible assumption) | (refine FW.fs ?_ (by omega) _; with_reducible assumption) | (refine WS.fs ?_; with_reducible assumption) | (refine FW.fs ?_ (by omega) _; assumption) | omega | assumption)); rintro e w1 ⟨rfl, o1, n1, rfl⟩)) | (go_at_call 194; ((with_reducible refine (sy _ ?_).mono ?_); (focus (first | (with_reducible assumption) | (with_reducible refine FS.ext ?_ _ _; with_reducible assumption) | (with_reducible refine IS.ext ?_ _ _; with_reducible assumption) | (refine hDu _ ?_; with_reducible assumption) | (refine hOu _ ?_; with_reducible assumption) | (refine hDa _ ?_; with_reducible assumption) | (refine hDb _ ?_; with_reducible assumption) | (refine hDc _ ?_; with_reducible assumption) | (refine hDd _ ?_; with_reducible assumption) | (refine FW.fs ?_ (by omega) _; with_reducible assumption) | (refine WS.fs ?_; with_reducible assumption) | (refine FW.fs ?_ (by omega) _; assumption) | omega | assumption)); rintro e w1 ⟨rfl, o2, n2, rfl⟩)))
          skip
          refine wp_region_R (Grew W) [] [(0,0), (0,1), (0,2), (0,3), (0,4), (0,5), (0,6), (0,7), (0,8), (0,9), (0,10), (0,11), (0,12), (0,13), (0,14), (0,15), (0,16), (0,17), (0,18), (0,19), (0,20), (0,21), (0,22), (0,23)] (by kernel_rfl) (by kernel_rfl) (fun _ _ _ _ h _ => h) (by first | exact ⟨_, _, ext_drew⟩ | exact ⟨_, _, drew_ext0⟩ | (show Grew _ _; repeat (first | (with_reducible exact Grew.refl _) | (with_reducible assumption) | (with_reducible exact Grew.same_o) | (with_reducible exact Grew.app_o) | (with_reducible refine Grew.ext ?_ _ _) | (with_reducible refine Grew.alloc ?_ _) | ((with_reducible refine Grew.setCell ?_ ?_ _); rotate_left; (focus (dsimp only; first | omega | (simp only [size_ext, World.size_alloc, Array.size_append]; omega)))) | (with_reducible refine Grew.drewN ?_ _) | (with_reducible refine Grew.drew ?_)))) ?_
          go_wp2_with (first | ((with_reducible refine wpR_id ?_); first | (refine wpR_take (v := ?_) rfl rfl ?_ ?_; rotate_left; (focus (rintro w' ⟨o', n', rfl⟩; go_simp; try with_reducible rfl)); simp only [Act.put, List.setIfInBounds_toArray, List.set_cons_zero, List.set_cons_succ]) | (refine wpR_pure (v := ?_) rfl rfl ?_ ?_; rotate_left; (focus (intro w'; go_simp; try with_reducible rfl)); simp only [Act.put, List.setIfInBounds_toArray, List.set_cons_zero, List.set_cons_succ]) | (refine wpR_takeG (v := ?_) rfl rfl rfl rfl rfl ?_ ?_; rotate_left; (focus (rintro w' ⟨o', n', rfl⟩; go_simp; try with_reducible rfl)); simp only [Act.put, List.setIfInBounds_toArray, List.set_cons_zero, List.set_cons_succ]) | (refine wpR_skip rfl rfl rfl rfl rfl rfl ?_; simp only [Act.put, List.setIfInBounds_toArray, List.set_cons_zero, List.set_cons_succ]) | (refine wpR_skipU rfl rfl rfl rfl rfl ?_; simp only [Act.put, List.setIfInBounds_toArray, List.set_cons_zero, List.set_cons_succ]) | (refine wpR_do rfl rfl (fun K hK => ?_)) | (refine wpR_doG rfl rfl rfl rfl rfl (fun K hK => ?_)) | (refine wpR_last rfl rfl (fun K hK => ?_)) | (refine wpR_nil ?_)) | ((with_reducible refine wpR_go ?_ ?_); (focus exact ⟨_, _, rfl⟩)) | ((with_reducible refine upon_id ?_); refine upon_fop rfl (by assumption) (by assumption) ?_; intro rr nn hr))
          go_ret
          exact ⟨ret_bool q.out.symm, by (show Grew _ _; repeat (first | (with_reducible exact Grew.refl _) | (with_reducible assumption) | (with_reducible exact Grew.same_o) | (with_reducible exact Grew.app_o) | (with_reducible refine Grew.ext ?_ _ _) | (with_reducible refine Grew.alloc ?_ _) | ((with_reducible refine Grew.setCell ?_ ?_ _); rotate_left; (focus (dsimp only; first | omega | (simp only [size_ext, World.size_alloc, Array.size_append]; omega)))) | (with_reducible refine Grew.drewN ?_ _) | (with_reducible refine Grew.drew ?_)))⟩
      · have q := hid (show meetM x y (decide (a = b)) = false by rw [hM]; simp [hab])
        clear hM px py
        go_enter Try.func136, Try.ntmps136
        refine seq_stop ?_
        go_wp2
        refine stop_go (fun W hW => ?_)
        have s1 : w.heap.size < W.heap.size := by rw [hW]; simp only [World.size_alloc]; omega
        have b1 : ∀ i, W.cell? ⟨w.heap.size, i, none⟩ = (#[.slice (some ⟨a, 0, none⟩) x.ws.length ca, .int .i64 x.off, .int .i64 x.rows, .int .i64 x.cols, .int .i64 x.ld] : Array Value)[i]? := by intro i; rw [hW]; go_simp
        have s2 : w.heap.size + 1 < W.heap.size := by rw [hW]; simp only [World.size_alloc]; omega
        have b2 : ∀ i, W.cell? ⟨w.heap.size + 1, i, none⟩ = (#[.slice (some ⟨b, 0, none⟩) y.ws.length cb, .int .i64 y.off, .int .i64 y.rows, .int .i64 y.cols, .int .i64 y.ld] : Array Value)[i]? := by intro i; rw [hW]; go_simp
        have g0 : Grew w W := by rw [hW]; exact ((Grew.refl _).alloc _).alloc _
        clear hW
        have hAW := hA.grew g0
        have hBW := hB.grew g0
        go_wp2_with (first | (go_at_call 194; ((with_reducible refine (sx _ ?_).mono ?_); (focus (first | (with_reducible assumption) | (with_reducible refine FS.ext ?_ _ _; with_reducible assumption) | (with_reducible refine IS.ext ?_ _ _; with_reducible assumption) | (refine hDu _ ?_; with_reducible assumption) | (refine hOu _ ?_; with_reducible assumption) | (refine hDa _ ?_; with_reducible assumption) | (refine hDb _ ?_; with_reducible assumption) | (refine hDc _ ?_; with_reducible assumption) | (refine hDd _ ?_; with_reducible assumption) | (refine FW.fs ?_ (by omega) _; with_reducible assumption) | (refine WS.fs ?_; with_reducible assumption) | (refine FW.fs ?_ (by omega) _; assumption) | omega | assumption)); rintro e w1 ⟨rfl, o1, n1, rfl⟩)) | (go_at_call 194; ((with_reducible refine (sy _ ?_).mono ?_); (focus (first | (with_reducible assumption) | (with_reducible refine FS.ext ?_ _ _; with_reducible assumption) | (with_reducible refine IS.ext ?_ _ _; with_reducible assumption) | (refine hDu _ ?_; with_reducible assumption) | (refine hOu _ ?_; with_reducible assumption) | (refine hDa _ ?_; with_reducible assumption) | (refine hDb _ ?_; with_reducible assumption) | (refine hDc _ ?_; with_reducible assumption) | (refine hDd _ ?_; with_reducible assumption) | (refine FW.fs ?_ (by omega) _; with_reducible assumption) | (refine WS.fs ?_; with_reducible assumption) | (refine FW.fs ?_ (by omega) _; assumption) | omega | assumption)); rintro e w1 ⟨rfl, o2, n2, rfl⟩)))
        have hnn : ∀ o n, (binOp .eql 142 (.pointer (some ⟨a, 0, none⟩)) (.pointer (some ⟨b, 0, none⟩))).run Try.prog (ext W o n) = .ok (.bool false) (ext W o n) := fun o n => hne _ (g0.ext o n) hab
        refine wp_region_R (Grew W) [] [(0,0), (0,1), (0,2), (0,3), (0,4), (0,5), (0,6), (0,7), (0,8), (0,9), (0,10), (0,11), (0,12), (0,13), (0,14), (0,15), (0,16), (0,17), (0,18), (0,19), (0,20), (0,21), (0,22), (0,23)] (by kernel_rfl) (by kernel_rfl) (fun _ _ _ _ h _ => h) (by first | exact ⟨_, _, ext_drew⟩ | exact ⟨_, _, drew_ext0⟩ | (show Grew _ _; repeat (first | (with_reducible exact Grew.refl _) | (with_reducible assumption) | (with_reducible exact Grew.same_o) | (with_reducible exact Grew.app_o) | (with_reducible refine Grew.ext ?_ _ _) | (with_reducible refine Grew.alloc ?_ _) | ((with_reducible refine Grew.setCell ?_ ?_ _); rotate_left; (focus (dsimp only; first | omega | (simp only [size_ext, World.size_alloc, Array.size_append]; omega)))) | (with_reducible refine Grew.drewN ?_ _) | (with_reducible refine Grew.drew ?_)))) ?_
        go_wp2_with (first | ((with_reducible refine wpR_id ?_); first | (refine wpR_take (v := ?_) rfl rfl ?_ ?_; rotate_left; (focus (rintro w' ⟨o', n', rfl⟩; go_simp; try with_reducible rfl)); simp only [Act.put, List.setIfInBounds_toArray, List.set_cons_zero, List.set_cons_succ]) | (refine wpR_pure (v := ?_) rfl rfl ?_ ?_; rotate_left; (focus (intro w'; go_simp; try with_reducible rfl)); simp only [Act.put, List.setIfInBounds_toArray, List.set_cons_zero, List.set_cons_succ]) | (refine wpR_takeG (v := ?_) rfl rfl rfl rfl rfl ?_ ?_; rotate_left; (focus (rintro w' ⟨o', n', rfl⟩; go_simp; try with_reducible rfl)); simp only [Act.put, List.setIfInBounds_toArray, List.set_cons_zero, List.set_cons_succ]) | (refine wpR_skip rfl rfl rfl rfl rfl rfl ?_; simp only [Act.put, List.setIfInBounds_toArray, List.set_cons_zero, List.set_cons_succ]) | (refine wpR_skipU rfl rfl rfl rfl rfl ?_; simp only [Act.put, List.setIfInBounds_toArray, List.set_cons_zero, List.set_cons_succ]) | (refine wpR_do rfl rfl (fun K hK => ?_)) | (refine wpR_doG rfl rfl rfl rfl rfl (fun K hK => ?_)) | (refine wpR_last rfl rfl (fun K hK => ?_)) | (refine wpR_nil ?_)) | ((with_reducible refine wpR_go ?_ ?_); (focus exact ⟨_, _, rfl⟩)) | ((with_reducible refine upon_id ?_); refine upon_fop rfl (by assumption) (by assumption) ?_; intro rr nn hr))
        go_ret
        exact ⟨ret_bool q.out.symm, by (show Grew _ _; repeat (first | (with_reducible exact Grew.refl _) | (with_reducible assumption) | (with_reducible exact Grew.same_o) | (with_reducible exact Grew.app_o) | (with_reducible refine Grew.ext ?_ _ _) | (with_reducible refine Grew.alloc ?_ _) | ((with_reducible refine Grew.setCell ?_ ?_ _); rotate_left; (focus (dsimp only; first | omega | (simp only [size_ext, World.size_alloc, Array.size_append]; omega)))) | (with_reducible refine Grew.drewN ?_ _) | (with_reducible refine Grew.drew ?_)))⟩
/-- straightedgeref07.Spans. -/
def spansB (a b c d : Int) : Bool := decide (a ≤ b) && decide (c ≤ d) && decide (a ≤ d) && decide (c ≤ b)
end Go.Proofs.Ytcmggfpcbijcjaa
end
section
/-
  Contracts: straightedgeref07.MatSpan, VecSpan; a vector as a matrix of one row (trsv.row); and: meeting is what the document says.
-/
set_option linter.unusedSimpArgs false
set_option linter.unusedVariables false
open Go Go.RowKit Sedge
namespace Go.Proofs.Ytcmggfpcbijcjaa
def vLo (x : VecM) : Int := if x.n = 0 then 0 else x.off
def vHi (x : VecM) : Int := if x.n = 0 then -1 else x.off + (x.n - 1) * x.inc
def mLo (m : MatM) : Int := if m.rows = 0 ∨ m.cols = 0 then 0 else m.off
def mHi (m : MatM) : Int := if m.rows = 0 ∨ m.cols = 0 then -1 else m.off + (m.cols - 1) * m.ld + m.rows - 1
def rowM (x : VecM) : MatM := ⟨x.ws, x.off, 1, x.n, x.inc⟩
theorem rowM_good {x : VecM} (h : x.right = true) : (rowM x).good = true := by
  have hn := VecM.right_n h
  unfold VecM.right at h
  unfold MatM.good rowM
  simp only [Bool.and_eq_true, Bool.or_eq_true, decide_eq_true_eq] at h ⊢
  refine ⟨by omega, ?_⟩
  rcases h.2 with h2 | h2
  · exact .inl (.inr h2)
  · exact .inr (by simpa [fitsB] using h2)
theorem rowM_wf {x : VecM} (h : x.wf) : (rowM x).wf := ⟨h.1, by unfold I64; simp [rowM], h.2.1, h.2.2⟩
end Go.Proofs.Ytcmggfpcbijcjaa
end
section
/-
  Contracts: view.place, view.At; trsv.square, zero; the system's num, at, less.
-/
set_option linter.unusedSimpArgs false
set_option linter.unusedVariables false
open Go Go.RowKit Sedge
namespace Go.Proofs.Ytcmggfpcbijcjaa
def sqE (k : Int) (x : MatM) (n : Int) : Int := if k < 1 ∨ 4 < k ∨ x.good = false then 1 else if x.rows = x.cols ∧ x.rows = n then 0 else 3
end Go.Proofs.Ytcmggfpcbijcjaa
end
section
/-
  Contracts: single operations on floats; sums, the greatest, the place of the greatest, products (layer 5 and its reference).
-/
set_option linter.unusedSimpArgs false
set_option linter.unusedVariables false
open Go Go.RowKit Sedge
namespace Go.Proofs.Ytcmggfpcbijcjaa
theorem gt_fact {r s X Y : Nat} (hr : IsF r X) (hs : IsF s Y) {v : Bool} (h : (FloatKind.f64.format.order r s == some .gt) = v) : fgt X Y = v := by
  unfold fgt; rw [← hr.order hs]; exact h
theorem isF_zero : IsF 0 0 := ⟨by decide, by decide +kernel⟩
/-- A sum in its order. -/
def fsumTo (l : List Nat) : Nat → Nat
  | 0 => 0
  | k + 1 => fadd (fsumTo l k) (l.getD k 0)
set_option maxRecDepth 100000 in
set_option maxHeartbeats 1000000 in
theorem sum_any (D : Value) (ws : List Nat) (w : World) (hD : FS w D ws) :
   Calls Try.prog 38 #[D] w (fun e w' => ∃ r, e = .returned (.float .f64 r) ∧ IsF r (fsumTo ws ws.length) ∧ ∃ o n, w' = ext w o n) := by
  obtain ⟨a, cap, rfl⟩ := hD.shape
  have hl := hD.len
  have HD := hD.at.2
  clear hD
  have hl' : (ws.length : Int) ≤ 9223372036854775807 := by omega
  go_enter Try.func38, Try.ntmps38
  go_wp2
  go_loopw [3, 8] (fun s c wr => ∃ k b : Nat, k ≤ ws.length ∧ c = .int .i64 k ∧ s = .float .f64 b ∧ IsF b (fsumTo ws k) ∧ ∃ o n, wr = ext w o n) (fun _ c _ => ws.length - (intOf c).toNat)
  case atStart => exact ⟨0, 0, Nat.zero_le _, rfl, rfl, isF_zero, _, _, ext_zero.symm⟩
  case round =>
    obtain ⟨k, s, hk, rfl, rfl, hs, oo, nn, hwr⟩ := hrel
    subst hwr
    by_cases hlt : k < ws.length
    · obtain ⟨blk, o, rfl, hblk, hc⟩ := HD (by omega)
      obtain ⟨b, hb, hx⟩ := hc k hlt
      clear hc HD
      go_wp2_with ((with_reducible refine upon_id ?_); refine upon_fop rfl (by assumption) (by assumption) ?_; intro rr nn hr)
      go_roundw
      case rel => exact ⟨k + 1, rr, by omega, by go_num, rfl, hr, _, _, rfl⟩
      case measure => simp [intOf]; omega
    · go_wp2
      go_ret
      have e : ws.length = k := by omega
      exact ⟨s, rfl, by rw [e]; exact hs, _, _, rfl⟩

/-- The greatest of numbers and 0, without NaNs. -/
def fmaxTo (l : List Nat) : Nat → Nat
  | 0 => 0
  | k + 1 => if fgt (l.getD k 0) (fmaxTo l k) = true then l.getD k 0 else fmaxTo l k
def anyNan (l : List Nat) : Bool := l.any isNan
def fgreatest (l : List Nat) : Nat := if anyNan l then QN else fmaxTo l l.length
theorem anyNan_take (l : List Nat) (k : Nat) (h : k < l.length) : anyNan (l.take (k + 1)) = (anyNan (l.take k) || isNan (l.getD k 0)) := by
  unfold anyNan
  have e1 : l.take (k + 1) = l.take k ++ [l[k]] := List.take_succ_eq_append_getElem h
  rw [e1, List.any_append]
  simp [List.getD_eq_getElem?_getD, h]
theorem anyNan_yes (l : List Nat) (k : Nat) (h : k < l.length) (hn : isNan (l.getD k 0) = true) : anyNan l = true := by
  unfold anyNan
  rw [List.any_eq_true]
  refine ⟨l.getD k 0, ?_, hn⟩
  rw [List.getD_eq_getElem?_getD, List.getElem?_eq_getElem h]; exact List.getElem_mem h
set_option maxRecDepth 100000 in
set_option maxHeartbeats 1000000 in
theorem greatest_any (D : Value) (ws : List Nat) (w : World) (hD : FS w D ws) :
   Calls Try.prog 39 #[D] w (fun e w' => ∃ r, e = .returned (.float .f64 r) ∧ IsF r (fgreatest ws) ∧ w = w') := by
  obtain ⟨a, cap, rfl⟩ := hD.shape
  have hl := hD.len
  have HD := hD.at.2
  clear hD
  have hl' : (ws.length : Int) ≤ 9223372036854775807 := by omega
  go_enter Try.func39, Try.ntmps39
  go_wp2
  go_loop [3, 8] (fun s c => ∃ k b : Nat, k ≤ ws.length ∧ c = .int .i64 k ∧ s = .float .f64 b ∧ IsF b (fmaxTo ws k) ∧ anyNan (ws.take k) = false) (fun _ c => ws.length - (intOf c).toNat)
  case atStart => exact ⟨0, 0, Nat.zero_le _, rfl, rfl, isF_zero, rfl⟩
  case round =>
    obtain ⟨k, s, hk, rfl, rfl, hs, hn⟩ := hrel
    have Hn := hid hn
    clear hn
    by_cases hlt : k < ws.length
    · obtain ⟨blk, o, rfl, hblk, hc⟩ := HD (by omega)
      obtain ⟨b, hb, hx⟩ := hc k hlt
      clear hc HD
      have e1 := order_self b
      rw [hx.nan] at e1
      cases hnan : isNan (ws.getD k 0)
      · have q1 : (FloatKind.f64.format.order b b != some .eq) = false := e1.trans hnan
        have e2 : (FloatKind.f64.format.order b s == some .gt) = fgt (ws.getD k 0) (fmaxTo ws k) := by
          unfold fgt; rw [← hx.order hs]; rfl
        have Hnan := hid hnan
        clear hnan e1
        cases hg : fgt (ws.getD k 0) (fmaxTo ws k)
        · have q2 := e2.trans hg
          have Hg := hid hg
          clear hg e2
          go_wp2
          go_round
          case rel => exact ⟨k + 1, s, by omega, by go_num, rfl, by unfold fmaxTo; rw [if_neg (by rw [Hg.out]; decide)]; exact hs, by rw [anyNan_take _ _ hlt, Hn.out, Hnan.out]; rfl⟩
          case measure => simp [intOf]; omega
        · have q2 := e2.trans hg
          have Hg := hid hg
          clear hg e2
          go_wp2
          go_round
          case rel => exact ⟨k + 1, b, by omega, by go_num, rfl, by unfold fmaxTo; rw [if_pos Hg.out]; exact hx, by rw [anyNan_take _ _ hlt, Hn.out, Hnan.out]; rfl⟩
          case measure => simp [intOf]; omega
      · have q1 : (FloatKind.f64.format.order b b != some .eq) = true := e1.trans hnan
        have Hnan := hid hnan
        clear hnan e1
        go_wp2
        go_ret
        refine ⟨b, rfl, ?_, rfl⟩
        unfold fgreatest
        rw [if_pos (anyNan_yes _ _ hlt Hnan.out)]
        exact ⟨hx.1, by rw [hx.2]; exact isNan_can hx.canonical Hnan.out⟩
    · go_wp2
      go_ret
      refine ⟨s, rfl, ?_, rfl⟩
      have e := Hn.out
      rw [List.take_of_length_le (by omega)] at e
      unfold fgreatest
      rw [e]
      have e : ws.length = k := by omega
      rw [e]; exact hs
end Go.Proofs.Ytcmggfpcbijcjaa
end
section
/-
  Contracts: view.Col, ger.row, ger.Ger's closure, ger.each.
-/
set_option linter.unusedSimpArgs false
set_option linter.unusedVariables false
open Go Go.RowKit Sedge
namespace Go.Proofs.Ytcmggfpcbijcjaa
def colV (m : MatM) (j : Nat) : VecM := ⟨m.ws, if 0 < m.rows then m.off + j * m.ld else m.off, m.rows, 1⟩
set_option maxRecDepth 100000 in
set_option maxHeartbeats 1000000 in
/-- view.Col. -/
theorem col_any (x : MatM) (D : Value) (j : Nat) (w : World) (hD : FS w D x.ws) (hx : x.good = true) (hwf : x.wf) (hj : (j : Int) < x.cols) :
   Calls Try.prog 149 #[.agg #[D, .int .i64 x.off, .int .i64 x.rows, .int .i64 x.cols, .int .i64 x.ld], .int .i64 j] w
     (fun e w' => e = .returned (.agg #[D, .int .i64 (colV x j).off, .int .i64 x.rows, .int .i64 1]) ∧ ∃ o n, w' = ext w o n) := by
  have hn := MatM.good_n hx
  obtain ⟨aD, capD, rfl⟩ := hD.shape
  have k1 : (!x.good) = false := by simp [hx]
  have hlen := hD.len
  have Hw := hid hwf
  have k3 : decide ((j : Int) < 0) = false := by simp
  have k4 : decide (x.cols ≤ (j : Int)) = false := by simp; omega
  by_cases hc : 0 < x.rows
  · have hp := MatM.good_place hx (i := 0) (j := j) (by simpa using hc) hj
    simp only [Int.natCast_zero, Int.add_zero] at hp
    have e : (colV x j).off = x.off + j * x.ld := by simp [colV, hc]
    have r1 : IntKind.i64.wrap ((j : Int) * x.ld) = j * x.ld := IntWalk.i64_in _ (by omega)
    have r2 : IntKind.i64.wrap (x.off + j * x.ld) = x.off + j * x.ld := IntWalk.i64_in _ (by omega)
    have Hx := hid hx
    have d5 : decide (0 < x.rows) = true := by simpa using hc
    rw [e]
    clear hx hwf e
    go_enter Try.func149, Try.ntmps149
    refine seq_stop ?_
    go_wp2
    refine stop_go (fun W hW => ?_)
    have s1 : w.heap.size < W.heap.size := by rw [hW]; simp only [World.size_alloc]; omega
    have b1 : ∀ i, W.cell? ⟨w.heap.size, i, none⟩ = (#[.slice aD x.ws.length capD, .int .i64 x.off, .int .i64 x.rows, .int .i64 x.cols, .int .i64 x.ld] : Array Value)[i]? := by intro i; rw [hW]; go_simp
    have f1 : ∀ i, W.frozen? ⟨w.heap.size, i, none⟩ = false := by intro i; rw [hW]; go_simp
    have s2 : w.heap.size + 1 < W.heap.size := by rw [hW]; simp only [World.size_alloc]; omega
    have b2 : ∀ i, W.cell? ⟨w.heap.size + 1, i, none⟩ = (#[.slice none 0 0, .int .i64 0, .int .i64 0, .int .i64 0] : Array Value)[i]? := by intro i; rw [hW]; go_simp
    have f2 : ∀ i, W.frozen? ⟨w.heap.size + 1, i, none⟩ = false := by intro i; rw [hW]; go_simp
    have g0 : Grew w W := by rw [hW]; exact ((Grew.refl _).alloc _).alloc _
    clear hW
    have hDW : FS W (.slice aD x.ws.length capD) x.ws := hD.grew g0
    go_wp2_with (first | (go_at_call 130; ((with_reducible refine (good_any x _ _ ?_ Hw.out).mono ?_); (focus (first | (with_reducible assumption) | (with_reducible refine FS.ext ?_ _ _; with_reducible assumption) | (with_reducible refine IS.ext ?_ _ _; with_reducible assumption) | (refine hDu _ ?_; with_reducible assumption) | (refine hOu _ ?_; with_reducible assumption) | (refine hDa _ ?_; with_reducible assumption) | (refine hDb _ ?_; with_reducible assumption) | (refine hDc _ ?_; with_reducible assumption) | (refine hDd _ ?_; with_reducible assumption) | (refine FW.fs ?_ (by omega) _; with_reducible assumption) | (refine WS.fs ?_; with_reducible assumption) | (refine FW.fs ?_ (by omega) _; assumption) | omega | assumption)); rintro e w1 ⟨rfl, o1, n1, rfl⟩)))
    refine bodyPost_ret (v := .agg #[.slice aD x.ws.length capD, .int .i64 (x.off + j * x.ld), .int .i64 x.rows, .int .i64 1]) (by simp [results, Try.results149, go_sem, *]) rfl ?_
    exact ⟨rfl, by (show Grew _ _; repeat (first | (with_reducible exact Grew.refl _) | (with_reducible assumption) | (with_reducible exact Grew.same_o) | (with_reducible exact Grew.app_o) | (with_reducible refine Grew.ext ?_ _ _) | (with_reducible refine Grew.alloc ?_ _) | ((with_reducible refine Grew.setCell ?_ ?_ _); rotate_left; (focus (dsimp only; first | omega | (simp only [size_ext, World.size_alloc, Array.size_append]; omega)))) | (with_reducible refine Grew.drewN ?_ _) | (with_reducible refine Grew.drew ?_)))⟩
  · have e : (colV x j).off = x.off := by simp [colV, hc]
    have Hx := hid hx
    have d5 : decide (0 < x.rows) = false := by simpa using hc
    rw [e]
    clear hx hwf e
    go_enter Try.func149, Try.ntmps149
    refine seq_stop ?_
    go_wp2
    refine stop_go (fun W hW => ?_)
    have s1 : w.heap.size < W.heap.size := by rw [hW]; simp only [World.size_alloc]; omega
    have b1 : ∀ i, W.cell? ⟨w.heap.size, i, none⟩ = (#[.slice aD x.ws.length capD, .int .i64 x.off, .int .i64 x.rows, .int .i64 x.cols, .int .i64 x.ld] : Array Value)[i]? := by intro i; rw [hW]; go_simp
    have f1 : ∀ i, W.frozen? ⟨w.heap.size, i, none⟩ = false := by intro i; rw [hW]; go_simp
    have s2 : w.heap.size + 1 < W.heap.size := by rw [hW]; simp only [World.size_alloc]; omega
    have b2 : ∀ i, W.cell? ⟨w.heap.size + 1, i, none⟩ = (#[.slice none 0 0, .int .i64 0, .int .i64 0, .int .i64 0] : Array Value)[i]? := by intro i; rw [hW]; go_simp
    have f2 : ∀ i, W.frozen? ⟨w.heap.size + 1, i, none⟩ = false := by intro i; rw [hW]; go_simp
    have g0 : Grew w W := by rw [hW]; exact ((Grew.refl _).alloc _).alloc _
    clear hW
    have hDW : FS W (.slice aD x.ws.length capD) x.ws := hD.grew g0
    go_wp2_with (first | (go_at_call 130; ((with_reducible refine (good_any x _ _ ?_ Hw.out).mono ?_); (focus (first | (with_reducible assumption) | (with_reducible refine FS.ext ?_ _ _; with_reducible assumption) | (with_reducible refine IS.ext ?_ _ _; with_reducible assumption) | (refine hDu _ ?_; with_reducible assumption) | (refine hOu _ ?_; with_reducible assumption) | (refine hDa _ ?_; with_reducible assumption) | (refine hDb _ ?_; with_reducible assumption) | (refine hDc _ ?_; with_reducible assumption) | (refine hDd _ ?_; with_reducible assumption) | (refine FW.fs ?_ (by omega) _; with_reducible assumption) | (refine WS.fs ?_; with_reducible assumption) | (refine FW.fs ?_ (by omega) _; assumption) | omega | assumption)); rintro e w1 ⟨rfl, o1, n1, rfl⟩)))
    refine bodyPost_ret (v := .agg #[.slice aD x.ws.length capD, .int .i64 x.off, .int .i64 x.rows, .int .i64 1]) (by simp [results, Try.results149, go_sem, *]) rfl ?_
    exact ⟨rfl, by (show Grew _ _; repeat (first | (with_reducible exact Grew.refl _) | (with_reducible assumption) | (with_reducible exact Grew.same_o) | (with_reducible exact Grew.app_o) | (with_reducible refine Grew.ext ?_ _ _) | (with_reducible refine Grew.alloc ?_ _) | ((with_reducible refine Grew.setCell ?_ ?_ _); rotate_left; (focus (dsimp only; first | omega | (simp only [size_ext, World.size_alloc, Array.size_append]; omega)))) | (with_reducible refine Grew.drewN ?_ _) | (with_reducible refine Grew.drew ?_)))⟩
theorem hmf (fn : Fn) (first cap : Array Value) (w : World) : (Instr.makeFunc fn first cap).run Try.prog w = .ok (.func fn first cap) w := rfl
/-- What a closure of ger.each does at a place. -/
def DoesAt (w : World) (m : MatM) (g : Nat) (q1 q2 q3 : Value) (F : Nat → Nat → Nat → Nat) : Prop :=
  ∀ w' L s, But w [g] w' → FW w' g L → Hold m.place m.rows.toNat m.cols.toNat m.ws L s → ∀ i j : Nat, (i : Int) < m.rows → (j : Int) < m.cols →
    Calls Try.prog 139 #[.int .i64 i, .int .i64 j, .pointer (some ⟨g, (m.off + j * m.ld + i).toNat, none⟩), q1, q2, q3] w' (fun e w2 => e = .returned (.tuple #[]) ∧ Wrote w' w2 g (L.set (m.place i j) (F i j (s i j))))
def stepF (F : Nat → Nat → Nat → Nat) (s : Nat → Nat → Nat) (j i : Nat) (r c : Nat) : Nat := if c < j ∨ (c = j ∧ r < i) then F r c (s r c) else s r c
end Go.Proofs.Ytcmggfpcbijcjaa
end
section
/-
  Plain: the steps of a triangular system, column by column and row by row, come to the same.
-/
set_option linter.unusedSimpArgs false
set_option linter.unusedVariables false
namespace Sedge
def lessF (s : Nat → Nat) (i k a : Nat) : Nat → Nat := fun r => if r = i then fsub (s i) (fmul a (s k)) else s r
def divF (s : Nat → Nat) (i a : Nat) : Nat → Nat := fun r => if r = i then fdiv (s i) a else s r
section
variable (M : Nat → Nat → Nat)
/-- Row i: less its first t products, the columns in their order. -/
def rowIn (s : Nat → Nat) (i : Nat) : Nat → (Nat → Nat)
  | 0 => s
  | t + 1 => lessF (rowIn s i t) i t (M i t)
def rowAll (s : Nat → Nat) : Nat → (Nat → Nat)
  | 0 => s
  | i + 1 => rowIn M (rowAll s i) i i
/-- Column j: out of the t rows below it. -/
def colIn (s : Nat → Nat) (j : Nat) : Nat → (Nat → Nat)
  | 0 => s
  | t + 1 => lessF (colIn s j t) (j + 1 + t) j (M (j + 1 + t) j)
def colAll (n : Nat) (s : Nat → Nat) : Nat → (Nat → Nat)
  | 0 => s
  | j + 1 => colIn M (colAll n s j) j (n - 1 - j)
variable {M} {s : Nat → Nat}
/-- Row r less t products. -/
def gRow (M : Nat → Nat → Nat) (s : Nat → Nat) (r t : Nat) : Nat := rowIn M (rowAll M s r) r t r
end
section
variable (M : Nat → Nat → Nat) (n : Nat)
def rowIn2 (s : Nat → Nat) (i : Nat) : Nat → (Nat → Nat)
  | 0 => s
  | t + 1 => lessF (rowIn2 s i t) i (n - 1 - t) (M i (n - 1 - t))
def rowAll2 (s : Nat → Nat) : Nat → (Nat → Nat)
  | 0 => s
  | k + 1 => divF (rowIn2 M n (rowAll2 s k) (n - 1 - k) k) (n - 1 - k) (M (n - 1 - k) (n - 1 - k))
def colIn2 (s : Nat → Nat) (j : Nat) : Nat → (Nat → Nat)
  | 0 => s
  | t + 1 => lessF (colIn2 s j t) t j (M t j)
def colAll2 (s : Nat → Nat) : Nat → (Nat → Nat)
  | 0 => s
  | k + 1 => colIn2 M (divF (colAll2 s k) (n - 1 - k) (M (n - 1 - k) (n - 1 - k))) (n - 1 - k) (n - 1 - k)
variable {M n} {s : Nat → Nat}
def gRow2 (M : Nat → Nat → Nat) (n : Nat) (s : Nat → Nat) (r t : Nat) : Nat := rowIn2 M n (rowAll2 M n s (n - 1 - r)) r t r
def fRow2 (M : Nat → Nat → Nat) (n : Nat) (s : Nat → Nat) (r : Nat) : Nat := fdiv (gRow2 M n s r (n - 1 - r)) (M r r)
end
end Sedge
end
section
/-
  Plain: a vector's numbers as a function; the four kinds of a triangular system.
-/
set_option linter.unusedSimpArgs false
set_option linter.unusedVariables false
open Go.Proofs.Ytcmggfpcbijcjaa
namespace Sedge
/-- The list L is x's, but its numbers are s. -/
structure VH (x : VecM) (L : List Nat) (s : Nat → Nat) : Prop where
  len : L.length = x.ws.length
  get : ∀ r : Nat, (r : Int) < x.n → L.getD (x.place r) 0 = s r
  rest : ∀ q, (∀ r : Nat, (r : Int) < x.n → x.place r ≠ q) → L.getD q 0 = x.ws.getD q 0
theorem VH.start (x : VecM) : VH x x.ws x.num := ⟨rfl, fun _ _ => rfl, fun _ _ => rfl⟩
theorem VH.set {x : VecM} {L : List Nat} {s : Nat → Nat} (h : VH x L s) (hx : x.right = true) {i v : Nat} (hi : (i : Int) < x.n) : VH x (L.set (x.place i) v) (fun r => if r = i then v else s r) := by
  refine ⟨by simp [h.len], fun r hr => ?_, fun q hq => ?_⟩
  · by_cases e : r = i
    · subst e; rw [getD_set_eq (by rw [h.len]; exact VecM.place_lt hx hi)]; simp
    · rw [getD_set_ne' (fun e' => e (VecM.place_inj hx hr hi e'.symm)), h.get r hr]; simp [e]
  · rw [getD_set_ne' (hq i hi), h.rest q hq]
theorem VH.less {x : VecM} {L : List Nat} {s : Nat → Nat} (h : VH x L s) (hx : x.right = true) {i k a : Nat} (hi : (i : Int) < x.n) (hk : (k : Int) < x.n) :
    VH x (L.set (x.place i) (fsub (L.getD (x.place i) 0) (fmul a (L.getD (x.place k) 0)))) (lessF s i k a) := by
  rw [h.get i hi, h.get k hk]
  exact h.set hx hi
theorem VH.div {x : VecM} {L : List Nat} {s : Nat → Nat} (h : VH x L s) (hx : x.right = true) {i a : Nat} (hi : (i : Int) < x.n) : VH x (L.set (x.place i) (fdiv (L.getD (x.place i) 0) a)) (divF s i a) := by
  rw [h.get i hi]; exact h.set hx hi
theorem VH.congr {x : VecM} {L : List Nat} {s t : Nat → Nat} (h : VH x L s) (e : ∀ r : Nat, (r : Int) < x.n → s r = t r) : VH x L t := ⟨h.len, fun r hr => (h.get r hr).trans (e r hr), h.rest⟩
theorem VH.final {x : VecM} {L : List Nat} {s : Nat → Nat} (h : VH x L s) (hx : x.right = true) : L = VecMwrite x ((List.range x.n.toNat).map s) := by
  have hn := VecM.right_n hx
  have hm : min x.n.toNat ((List.range x.n.toNat).map s).length = x.n.toNat := by simp
  unfold VecMwrite VecMwriteTo
  rw [hm]
  apply List.ext_getElem?
  intro q
  have hl : L.length = (writes x.ws x.place (fun t => ((List.range x.n.toNat).map s).getD t 0) x.n.toNat).length := by rw [writes_length, h.len]
  by_cases hq : q < L.length
  · have e : L.getD q 0 = (writes x.ws x.place (fun t => ((List.range x.n.toNat).map s).getD t 0) x.n.toNat).getD q 0 := by
      by_cases hp : ∃ r : Nat, (r : Int) < x.n ∧ x.place r = q
      · obtain ⟨r, hr, rfl⟩ := hp
        rw [h.get r hr, writes_at x.n.toNat (fun a b ha hb e => VecM.place_inj hx (by omega) (by omega) e) (fun a ha => VecM.place_lt hx (by omega)) r (by omega)]
        rw [List.getD_eq_getElem?_getD, List.getElem?_map, List.getElem?_range (by omega)]; rfl
      · have hp' : ∀ r : Nat, (r : Int) < x.n → x.place r ≠ q := fun r hr e => hp ⟨r, hr, e⟩
        rw [h.rest q hp', writes_other x.n.toNat fun t ht => hp' t (by omega)]
    rw [List.getD_eq_getElem?_getD, List.getD_eq_getElem?_getD, List.getElem?_eq_getElem hq, List.getElem?_eq_getElem (by omega)] at e
    rw [List.getElem?_eq_getElem hq, List.getElem?_eq_getElem (by omega)]
    simpa using e
  · rw [List.getElem?_eq_none (by omega), List.getElem?_eq_none (by omega)]
section
variable (M : Nat → Nat → Nat) (n : Nat)
def rowIn3 (s : Nat → Nat) (i : Nat) : Nat → (Nat → Nat)
  | 0 => s
  | t + 1 => lessF (rowIn3 s i t) i (i + 1 + t) (M (i + 1 + t) i)
def rowAll3 (s : Nat → Nat) : Nat → (Nat → Nat)
  | 0 => s
  | k + 1 => rowIn3 M (rowAll3 s k) (n - 1 - k) k
def rowIn4 (s : Nat → Nat) (i : Nat) : Nat → (Nat → Nat)
  | 0 => s
  | t + 1 => lessF (rowIn4 s i t) i t (M t i)
def rowAll4 (s : Nat → Nat) : Nat → (Nat → Nat)
  | 0 => s
  | i + 1 => divF (rowIn4 M (rowAll4 s i) i i) i (M i i)
/-- What a system of a kind comes to (as the document says it: row by row). -/
def solveF (k : Int) (s : Nat → Nat) : Nat → Nat :=
  if k = 1 then rowAll M s n else if k = 2 then rowAll2 M n s n else if k = 3 then rowAll3 M n s n else rowAll4 M s n
end
end Sedge
end
section
/-
  Contracts: trsv.zero; the system's num, at, less.
-/
set_option linter.unusedSimpArgs false
set_option linter.unusedVariables false
open Go Go.RowKit Sedge
namespace Go.Proofs.Ytcmggfpcbijcjaa
def feq0 (x : Nat) : Bool := D64.order x 0 == some .eq
def zeroTo (k : Int) (x : MatM) (n : Nat) : Bool := (decide (k = 2) || decide (k = 4)) && (List.range n).any fun i => feq0 (x.num i i)
end Go.Proofs.Ytcmggfpcbijcjaa
end
section
/-
  Places clear of each other; blocks of numbers written out; small facts for the laws.
-/
set_option linter.unusedSimpArgs false
set_option linter.unusedVariables false
open Go Go.RowKit Sedge
namespace Go.Proofs.Ytcmggfpcbijcjaa
theorem meet_no {x : VecM} {m : MatM} (hx : x.right = true) (hm : m.good = true) (h : meetM (rowM x) m true = false) {r i j : Nat} (hr : (r : Int) < x.n) (hi : (i : Int) < m.rows) (hj : (j : Int) < m.cols) : x.place r ≠ m.place i j := by
  intro e
  have f1 : MatM.full (rowM x) = true := by unfold MatM.full; rw [rowM_good hx]; simp [rowM]; omega
  have f2 : MatM.full m = true := by unfold MatM.full; rw [hm]; simp; omega
  have px := VecM.right_place hx hr
  have pm := MatM.good_place hm hi hj
  have hn := VecM.right_n hx
  have hmn := m.good_n hm
  unfold VecM.place MatM.place at e
  have e' : x.off + r * x.inc = m.off + i + j * m.ld := by omega
  have k1 : (r : Int) * x.inc ≤ (x.n - 1) * x.inc := Int.mul_le_mul_of_nonneg_right (by omega) (by omega)
  have k2 : (j : Int) * m.ld ≤ (m.cols - 1) * m.ld := Int.mul_le_mul_of_nonneg_right (by omega) (by omega)
  unfold meetM spanLo spanHi at h
  rw [f1, f2] at h
  simp [rowM] at h
  omega
theorem _root_.Sedge.But.fs_ne {w w' : World} {a g c n : Nat} {ws : List Nat} (hb : But w [g] w') (h : FS w (.slice (some ⟨a, 0, none⟩) n c) ws) (hne : a ≠ g) : FS w' (.slice (some ⟨a, 0, none⟩) n c) ws := by
  obtain ⟨hl, a', cap, hv, h0, hc⟩ := h
  refine ⟨hl, a', cap, hv, h0, fun i hi => ?_⟩
  obtain ⟨blk, o, b, he, h1, h2⟩ := hc i hi
  refine ⟨blk, o, b, he, ?_, h2⟩
  have e : blk = a := by
    have e2 := hv
    simp only [Value.slice.injEq] at e2
    rw [he] at e2
    have e3 := e2.1
    simp only [Option.some.injEq, Addr.mk.injEq] at e3
    exact e3.1.symm
  rw [hb.cell (World.block_lt_of_cell? w _ h1) (by rw [e]; simpa using hne)]; exact h1
theorem FW.lit {w : World} {t : TypeId} (l : List Nat) (h : ∀ x ∈ l, IsF x x) : FW (w.alloc (.cells (l.map (Value.float .f64)).toArray t)) w.heap.size l := by
  refine ⟨(l.map (Value.float .f64)).toArray, t, by show (w.heap.push _)[w.heap.size]? = _; simp, by simp, fun i hi => ⟨l.getD i 0, ?_, ?_⟩⟩
  · simp [List.getD_eq_getElem?_getD, hi]
  · rw [List.getD_eq_getElem?_getD, List.getElem?_eq_getElem hi]
    exact h _ (List.getElem_mem hi)
end Go.Proofs.Ytcmggfpcbijcjaa
end
section
/-
  Contracts: gemv.row, at, begin, Mul's closure, columns.
-/
set_option linter.unusedSimpArgs false
set_option linter.unusedVariables false
open Go Go.RowKit Sedge
namespace Go.Proofs.Ytcmggfpcbijcjaa
set_option maxRecDepth 100000 in
set_option maxHeartbeats 1000000 in
/-- gemv.row. -/
theorem vrow_any (x : VecM) (a : Option Addr) (l c : Nat) (w : World) :
   Calls Try.prog 196 #[.agg #[.slice a l c, .int .i64 x.off, .int .i64 x.n, .int .i64 x.inc]] w (fun e w' => e = .returned (.agg #[.slice a l c, .int .i64 x.off, .int .i64 1, .int .i64 x.n, .int .i64 x.inc]) ∧ ∃ o n, w' = ext w o n) := by
  go_enter Try.func196, Try.ntmps196
  refine seq_stop ?_
  go_wp2
  refine stop_go (fun W hW => ?_)
  have s1 : w.heap.size < W.heap.size := by rw [hW]; simp only [World.size_alloc]; omega
  have b1 : ∀ i, W.cell? ⟨w.heap.size, i, none⟩ = (#[.slice a l c, .int .i64 x.off, .int .i64 x.n, .int .i64 x.inc] : Array Value)[i]? := by intro i; rw [hW]; go_simp
  have f1 : ∀ i, W.frozen? ⟨w.heap.size, i, none⟩ = false := by intro i; rw [hW]; go_simp
  have s2 : w.heap.size + 1 < W.heap.size := by rw [hW]; simp only [World.size_alloc]; omega
  have b2 : ∀ i, W.cell? ⟨w.heap.size + 1, i, none⟩ = (#[.slice none 0 0, .int .i64 0, .int .i64 0, .int .i64 0, .int .i64 0] : Array Value)[i]? := by intro i; rw [hW]; go_simp
  have f2 : ∀ i, W.frozen? ⟨w.heap.size + 1, i, none⟩ = false := by intro i; rw [hW]; go_simp
  have g0 : Grew w W := by rw [hW]; exact ((Grew.refl _).alloc _).alloc _
  clear hW
  go_wp2
  refine bodyPost_ret (v := .agg #[.slice a l c, .int .i64 x.off, .int .i64 1, .int .i64 x.n, .int .i64 x.inc]) (by simp [results, Try.results196, go_sem, *]) rfl ?_
  exact ⟨rfl, by (show Grew _ _; repeat (first | (with_reducible exact Grew.refl _) | (with_reducible assumption) | (with_reducible exact Grew.same_o) | (with_reducible exact Grew.app_o) | (with_reducible refine Grew.ext ?_ _ _) | (with_reducible refine Grew.alloc ?_ _) | ((with_reducible refine Grew.setCell ?_ ?_ _); rotate_left; (focus (dsimp only; first | omega | (simp only [size_ext, World.size_alloc, Array.size_append]; omega)))) | (with_reducible refine Grew.drewN ?_ _) | (with_reducible refine Grew.drew ?_)))⟩
set_option maxRecDepth 100000 in
set_option maxHeartbeats 1000000 in
/-- gemv.at. -/
theorem gat_any (x : VecM) (g cap i : Nat) (w : World) (hx : x.right = true) (hi : (i : Int) < x.n) (hl : x.ws.length ≤ 1000000) :
   Calls Try.prog 160 #[.agg #[.slice (some ⟨g, 0, none⟩) x.ws.length cap, .int .i64 x.off, .int .i64 x.n, .int .i64 x.inc], .int .i64 i] w
     (fun e w' => e = .returned (.pointer (some ⟨g, x.place i, none⟩)) ∧ ∃ o n, w' = ext w o n) := by
  have hp := VecM.right_place hx hi
  have hn := VecM.right_n hx
  have r1 : IntKind.i64.wrap (i * x.inc) = i * x.inc := IntWalk.i64_in _ (by omega)
  have r2 : IntKind.i64.wrap (x.off + i * x.inc) = x.off + i * x.inc := IntWalk.i64_in _ (by omega)
  unfold VecM.place
  clear hx
  go_enter Try.func160, Try.ntmps160
  refine seq_stop ?_
  go_wp2
  refine stop_go (fun W hW => ?_)
  have s1 : w.heap.size < W.heap.size := by rw [hW]; simp only [World.size_alloc]; omega
  have b1 : ∀ i, W.cell? ⟨w.heap.size, i, none⟩ = (#[.slice (some ⟨g, 0, none⟩) x.ws.length cap, .int .i64 x.off, .int .i64 x.n, .int .i64 x.inc] : Array Value)[i]? := by intro i; rw [hW]; go_simp
  have g0 : Grew w W := by rw [hW]; exact (Grew.refl _).alloc _
  clear hW
  go_wp2
  go_ret
  exact ⟨rfl, by (show Grew _ _; repeat (first | (with_reducible exact Grew.refl _) | (with_reducible assumption) | (with_reducible exact Grew.same_o) | (with_reducible exact Grew.app_o) | (with_reducible refine Grew.ext ?_ _ _) | (with_reducible refine Grew.alloc ?_ _) | ((with_reducible refine Grew.setCell ?_ ?_ _); rotate_left; (focus (dsimp only; first | omega | (simp only [size_ext, World.size_alloc, Array.size_append]; omega)))) | (with_reducible refine Grew.drewN ?_ _) | (with_reducible refine Grew.drew ?_)))⟩
/-- A good matrix' column is right. -/
theorem colV_right {m : MatM} (hm : m.good = true) {j : Nat} (hj : (j : Int) < m.cols) (h0 : 0 < m.rows) : (colV m j).right = true := by
  have hn := MatM.good_n hm
  have hp := MatM.good_place hm (i := (m.rows - 1).toNat) (j := j) (by omega) hj
  have hp0 := MatM.good_place hm (i := 0) (j := j) (by omega) hj
  unfold VecM.right colV fitsB
  simp only [h0, if_true, Bool.and_eq_true, Bool.or_eq_true, decide_eq_true_eq]
  rw [Int.toNat_of_nonneg (by omega)] at hp
  simp only [Int.natCast_zero, Int.add_zero] at hp0
  refine ⟨by omega, .inr ⟨by omega, by omega⟩⟩
/-- A number that is begun. -/
def beginF (β z : Nat) : Nat := if feq0 β = true then 0 else fmul β z
def stepV (F : Nat → Nat) (s : Nat → Nat) (i r : Nat) : Nat := if r < i then F (s r) else s r
theorem stepV_set {x : VecM} {L : List Nat} {s : Nat → Nat} {F : Nat → Nat} {i v : Nat} (h : VH x L (stepV F s i)) (hx : x.right = true) (hi : (i : Int) < x.n) (hv : v = F (s i)) : VH x (L.set (x.place i) v) (stepV F s (i + 1)) := by
  refine (h.set hx hi).congr fun r hr => ?_
  unfold stepV
  by_cases e : r = i
  · subst e; simp [hv]
  · rw [if_neg e]
    by_cases h2 : r < i
    · rw [if_pos h2, if_pos (by omega)]
    · rw [if_neg h2, if_neg (by omega)]
set_option maxRecDepth 100000 in
set_option maxHeartbeats 2000000 in
/-- gemv.begin. -/
theorem begin_any (b β : Nat) (y : VecM) (g cap : Nat) (s : Nat → Nat) (L0 : List Nat) (w : World) (hb : IsF b β) (hF : FW w g L0) (hV : VH y L0 s) (hy : y.right = true) (hl : y.ws.length ≤ 1000000) :
   Calls Try.prog 145 #[.float .f64 b, .agg #[.slice (some ⟨g, 0, none⟩) y.ws.length cap, .int .i64 y.off, .int .i64 y.n, .int .i64 y.inc]] w
     (fun e w' => e = .returned (.tuple #[]) ∧ But w [g] w' ∧ ∃ L, FW w' g L ∧ VH y L (fun r => beginF β (s r))) := by
  have hn := VecM.right_n hy
  have hnl := VecM.right_nle hy hl
  have hltg := hF.lt
  have Hy := hid hy
  have hat : ∀ i : Nat, (i : Int) < y.n → ∀ w', Calls Try.prog 160 #[.agg #[.slice (some ⟨g, 0, none⟩) y.ws.length cap, .int .i64 y.off, .int .i64 y.n, .int .i64 y.inc], .int .i64 i] w' (fun e w2 => e = .returned (.pointer (some ⟨g, y.place i, none⟩)) ∧ ∃ o n, w2 = ext w' o n) := fun i hi w' => gat_any y g cap i w' hy hi hl
  clear hy
  cases hz : feq0 β
  · have hz' : (FloatKind.f64.format.order b 0 == some Ordering.eq) = false := by rw [← hz]; unfold feq0; rw [← hb.order isF_zero]; rfl
    have hbf : ∀ z, fmul β z = beginF β z := fun z => by unfold beginF; rw [hz]; rfl
    go_enter Try.func145, Try.ntmps145
    refine seq_stop ?_
    go_wp2
    refine stop_go (fun W hW => ?_)
    have s1 : w.heap.size < W.heap.size := by rw [hW]; simp only [World.size_alloc]; omega
    have b1 : ∀ i, W.cell? ⟨w.heap.size, i, none⟩ = (#[.slice (some ⟨g, 0, none⟩) y.ws.length cap, .int .i64 y.off, .int .i64 y.n, .int .i64 y.inc] : Array Value)[i]? := by intro i; rw [hW]; go_simp
    have g0 : Grew w W := by rw [hW]; exact (Grew.refl _).alloc _
    clear hW
    have zW := g0.below.size
    have bw : ∀ w', But W [g] w' → But w [g] w' := fun w' h => ((But.refl w [g]).grew g0).trans h (fun _ hb => .inl hb)
    have cU : ∀ w', But W [g] w' → ∀ i, w'.cell? ⟨w.heap.size, i, none⟩ = (#[.slice (some ⟨g, 0, none⟩) y.ws.length cap, .int .i64 y.off, .int .i64 y.n, .int .i64 y.inc] : Array Value)[i]? := fun w' h i => (h.cell s1 (by simp; omega)).trans (b1 i)
    have hFW := hF.grew g0
    go_wp2
    go_loopw [8] (fun c wr => ∃ (i : Nat) (L : List Nat), (i : Int) ≤ y.n ∧ c = .int .i64 i ∧ But W [g] wr ∧ FW wr g L ∧ VH y L (stepV (beginF β) s i)) (fun c _ => (y.n - intOf c).toNat)
    case atStart => exact ⟨0, L0, hn.1, rfl, But.refl _ _, hFW, hV.congr fun r _ => by simp [stepV]⟩
    case round =>
      obtain ⟨i, L, hi, rfl, hB, hL, hS⟩ := hrel
      have tT := cU _ hB
      have zB := hB.size
      have kT : w.heap.size < wr.heap.size := by omega
      by_cases hlt : (i : Int) < y.n
      · have hlt' := hid hlt
        have hati := hat i hlt
        obtain ⟨r0, hr0, hf0⟩ := hL.get (i := y.place i) (by rw [hS.len]; exact VecM.place_lt Hy.out hlt)
        have gl := hL.lt
        have fz : ∀ i, wr.frozen? ⟨g, i, none⟩ = false := hL.notFrozen
        go_wp2_with (first | (go_at_call 160; ((with_reducible refine (hati _).mono ?_); rintro e w1 ⟨rfl, o1, n1, rfl⟩)) | ((with_reducible refine upon_id ?_); refine upon_fop rfl (by assumption) (by assumption) ?_; intro rr nn hr))
        go_roundw
        case rel => exact ⟨i + 1, _, by have := hlt'.out; omega, by go_num, (hB.setc hL (by simp)).grew ⟨_, _, rfl⟩, (hL.setc (k := y.place i) hr).ext _ _, stepV_set hS Hy.out hlt'.out (by rw [← hbf, hS.get i hlt'.out]; unfold stepV; rw [if_neg (by omega)]; rfl)⟩
        case measure => (have := hlt'.out; simp [intOf]; omega)
      · go_wp2
        go_end0
        exact ⟨rfl, bw _ hB, L, hL, hS.congr fun r hr => by unfold stepV; rw [if_pos (by omega)]⟩
  · have hz' : (FloatKind.f64.format.order b 0 == some Ordering.eq) = true := by rw [← hz]; unfold feq0; rw [← hb.order isF_zero]; rfl
    have hbf : ∀ z, 0 = beginF β z := fun z => by unfold beginF; rw [hz]; rfl
    go_enter Try.func145, Try.ntmps145
    refine seq_stop ?_
    go_wp2
    refine stop_go (fun W hW => ?_)
    have s1 : w.heap.size < W.heap.size := by rw [hW]; simp only [World.size_alloc]; omega
    have b1 : ∀ i, W.cell? ⟨w.heap.size, i, none⟩ = (#[.slice (some ⟨g, 0, none⟩) y.ws.length cap, .int .i64 y.off, .int .i64 y.n, .int .i64 y.inc] : Array Value)[i]? := by intro i; rw [hW]; go_simp
    have g0 : Grew w W := by rw [hW]; exact (Grew.refl _).alloc _
    clear hW
    have zW := g0.below.size
    have bw : ∀ w', But W [g] w' → But w [g] w' := fun w' h => ((But.refl w [g]).grew g0).trans h (fun _ hb => .inl hb)
    have cU : ∀ w', But W [g] w' → ∀ i, w'.cell? ⟨w.heap.size, i, none⟩ = (#[.slice (some ⟨g, 0, none⟩) y.ws.length cap, .int .i64 y.off, .int .i64 y.n, .int .i64 y.inc] : Array Value)[i]? := fun w' h i => (h.cell s1 (by simp; omega)).trans (b1 i)
    have hFW := hF.grew g0
    go_wp2
    go_loopw [8] (fun c wr => ∃ (i : Nat) (L : List Nat), (i : Int) ≤ y.n ∧ c = .int .i64 i ∧ But W [g] wr ∧ FW wr g L ∧ VH y L (stepV (beginF β) s i)) (fun c _ => (y.n - intOf c).toNat)
    case atStart => exact ⟨0, L0, hn.1, rfl, But.refl _ _, hFW, hV.congr fun r _ => by simp [stepV]⟩
    case round =>
      obtain ⟨i, L, hi, rfl, hB, hL, hS⟩ := hrel
      have tT := cU _ hB
      have zB := hB.size
      have kT : w.heap.size < wr.heap.size := by omega
      by_cases hlt : (i : Int) < y.n
      · have hlt' := hid hlt
        have hati := hat i hlt
        obtain ⟨r0, hr0, hf0⟩ := hL.get (i := y.place i) (by rw [hS.len]; exact VecM.place_lt Hy.out hlt)
        have gl := hL.lt
        have fz : ∀ i, wr.frozen? ⟨g, i, none⟩ = false := hL.notFrozen
        go_wp2_with (first | (go_at_call 160; ((with_reducible refine (hati _).mono ?_); rintro e w1 ⟨rfl, o1, n1, rfl⟩)))
        go_roundw
        case rel => exact ⟨i + 1, _, by have := hlt'.out; omega, by go_num, (hB.setc hL (by simp)).grew ⟨_, _, rfl⟩, (hL.setc (k := y.place i) isF_zero).ext _ _, stepV_set hS Hy.out hlt'.out (hbf _)⟩
        case measure => (have := hlt'.out; simp [intOf]; omega)
      · go_wp2
        go_end0
        exact ⟨rfl, bw _ hB, L, hL, hS.congr fun r hr => by unfold stepV; rw [if_pos (by omega)]⟩
/-- gemv.Mul's closure. -/
theorem mcl_any (v x a V X α Ta : Nat) (w : World) (hv : IsF v V) (hx : IsF x X) (ha : IsF a α) (hca : ∀ i, w.cell? ⟨Ta, i, none⟩ = (#[.float .f64 a] : Array Value)[i]?) :
   Calls Try.prog 147 #[.float .f64 v, .float .f64 x, .pointer (some ⟨Ta, 0, none⟩)] w (fun e w' => ∃ r, e = .returned (.float .f64 r) ∧ IsF r (fmul (fmul α X) V) ∧ ∃ o n, w' = ext w o n) := by
  go_enter Try.func147, Try.ntmps147
  go_wp2_with (first | ((with_reducible refine upon_id ?_); refine upon_fop rfl (by assumption) (by assumption) ?_; intro rr nn hr))
  go_ret
  exact ⟨_, rfl, by assumption, by (show Grew _ _; repeat (first | (with_reducible exact Grew.refl _) | (with_reducible assumption) | (with_reducible exact Grew.same_o) | (with_reducible exact Grew.app_o) | (with_reducible refine Grew.ext ?_ _ _) | (with_reducible refine Grew.alloc ?_ _) | ((with_reducible refine Grew.setCell ?_ ?_ _); rotate_left; (focus (dsimp only; first | omega | (simp only [size_ext, World.size_alloc, Array.size_append]; omega)))) | (with_reducible refine Grew.drewN ?_ _) | (with_reducible refine Grew.drew ?_)))⟩
end Go.Proofs.Ytcmggfpcbijcjaa
end
section
/-
  Contract: gemv.columns, of gemv.Mul's closure.
-/
set_option linter.unusedSimpArgs false
set_option linter.unusedVariables false
open Go Go.RowKit Sedge
namespace Go.Proofs.Ytcmggfpcbijcjaa
/-- A row's number: what it began with, and the products of its first j columns. -/
def mulTo (α : Nat) (M : Nat → Nat → Nat) (X : Nat → Nat) (z r : Nat) : Nat → Nat
  | 0 => z
  | j + 1 => fadd (mulTo α M X z r j) (fmul (fmul α (X j)) (M r j))
/-- A number of a matrix, or of a vector, can be read while y's numbers change. -/
def Reads (w : World) (y : VecM) (g b : Nat) (pl : Nat) (v : Nat) : Prop :=
  ∀ w' L s, But w [g] w' → FW w' g L → VH y L s → ∃ r, w'.cell? ⟨b, pl, none⟩ = some (.float .f64 r) ∧ IsF r v
set_option maxRecDepth 100000 in
set_option maxHeartbeats 4000000 in
theorem columns_any (m : MatM) (x y : VecM) (bm cm bx cx g cg a α Ta : Nat) (s0 : Nat → Nat) (L0 : List Nat) (w : World) (ha : IsF a α) (hca : ∀ i, w.cell? ⟨Ta, i, none⟩ = (#[.float .f64 a] : Array Value)[i]?) (kTa : Ta < w.heap.size) (nTa : Ta ≠ g)
    (hF : FW w g L0) (hV : VH y L0 s0) (hm : m.good = true) (hx : x.right = true) (hy : y.right = true) (hwm : m.wf) (hxn : x.n = m.cols) (hyn : y.n = m.rows) (hy0 : 0 < y.n) (hlm : m.ws.length ≤ 1000000) (hlx : x.ws.length ≤ 1000000) (hly : y.ws.length ≤ 1000000)
    (hcolA : ∀ w' L s, But w [g] w' → FW w' g L → VH y L s → ∀ j : Nat, (j : Int) < m.cols → Calls Try.prog 149 #[.agg #[.slice (some ⟨bm, 0, none⟩) m.ws.length cm, .int .i64 m.off, .int .i64 m.rows, .int .i64 m.cols, .int .i64 m.ld], .int .i64 j] w'
      (fun e w2 => e = .returned (.agg #[.slice (some ⟨bm, 0, none⟩) m.ws.length cm, .int .i64 (m.off + j * m.ld), .int .i64 m.rows, .int .i64 1]) ∧ ∃ o n, w2 = ext w' o n))
    (rdm : ∀ i j : Nat, (i : Int) < m.rows → (j : Int) < m.cols → Reads w y g bm (m.place i j) (m.num i j)) (rdx : ∀ j : Nat, (j : Int) < x.n → Reads w y g bx (x.place j) (x.num j)) (kbm : bm < w.heap.size) (kbx : bx < w.heap.size) :
   Calls Try.prog 146 #[.agg #[.slice (some ⟨bm, 0, none⟩) m.ws.length cm, .int .i64 m.off, .int .i64 m.rows, .int .i64 m.cols, .int .i64 m.ld], .agg #[.slice (some ⟨bx, 0, none⟩) x.ws.length cx, .int .i64 x.off, .int .i64 x.n, .int .i64 x.inc], .agg #[.slice (some ⟨g, 0, none⟩) y.ws.length cg, .int .i64 y.off, .int .i64 y.n, .int .i64 y.inc], .func (.func 147) #[] #[.pointer (some ⟨Ta, 0, none⟩)]] w
     (fun e w' => e = .returned (.tuple #[]) ∧ But w [g] w' ∧ ∃ L, FW w' g L ∧ VH y L (fun r => mulTo α m.num x.num (s0 r) r x.n.toNat)) := by
  have hn := MatM.good_n hm
  have hnx := VecM.right_n hx
  have hny := VecM.right_n hy
  have hltg := hF.lt
  have Hm := hid hm
  have Hx := hid hx
  have Hy := hid hy
  have Hxn := hid hxn
  have Hyn := hid hyn
  have hnlx := VecM.right_nle hx hlx
  have hnly := VecM.right_nle hy hly
  have haty : ∀ i : Nat, (i : Int) < y.n → ∀ w', Calls Try.prog 160 #[.agg #[.slice (some ⟨g, 0, none⟩) y.ws.length cg, .int .i64 y.off, .int .i64 y.n, .int .i64 y.inc], .int .i64 i] w' (fun e w2 => e = .returned (.pointer (some ⟨g, y.place i, none⟩)) ∧ ∃ o n, w2 = ext w' o n) := fun i hi w' => gat_any y g cg i w' hy hi hly
  have hatx : ∀ i : Nat, (i : Int) < x.n → ∀ w', Calls Try.prog 160 #[.agg #[.slice (some ⟨bx, 0, none⟩) x.ws.length cx, .int .i64 x.off, .int .i64 x.n, .int .i64 x.inc], .int .i64 i] w' (fun e w2 => e = .returned (.pointer (some ⟨bx, x.place i, none⟩)) ∧ ∃ o n, w2 = ext w' o n) := fun i hi w' => gat_any x bx cx i w' hx hi hlx
  have hatm : ∀ i j : Nat, (i : Int) < m.rows → (j : Int) < m.cols → ∀ w', Calls Try.prog 160 #[.agg #[.slice (some ⟨bm, 0, none⟩) m.ws.length cm, .int .i64 (m.off + j * m.ld), .int .i64 m.rows, .int .i64 1], .int .i64 i] w' (fun e w2 => e = .returned (.pointer (some ⟨bm, m.place i j, none⟩)) ∧ ∃ o n, w2 = ext w' o n) := fun i j hi hj w' => by
    have hr := colV_right hm hj (by omega)
    have h := gat_any (colV m j) bm cm i w' hr hi hlm
    have e1 : (colV m j).place i = m.place i j := by unfold colV VecM.place MatM.place; simp only [show (0 : Int) < m.rows by omega, if_true]; congr 1; omega
    have e2 : (colV m j).off = m.off + j * m.ld := by unfold colV; simp only [show (0 : Int) < m.rows by omega, if_true]
    rw [e1, e2] at h
    exact h
  clear hm hx hy hwm hxn hyn
  have hmc : ∀ v V x X w', IsF v V → IsF x X → (∀ i, w'.cell? ⟨Ta, i, none⟩ = (#[.float .f64 a] : Array Value)[i]?) → Calls Try.prog 147 #[.float .f64 v, .float .f64 x, .pointer (some ⟨Ta, 0, none⟩)] w' (fun e w2 => ∃ r, e = .returned (.float .f64 r) ∧ IsF r (fmul (fmul α X) V) ∧ ∃ o n, w2 = ext w' o n) := fun v V x X w' h1 h2 h3 => mcl_any v x a V X α Ta w' h1 h2 ha h3
  go_enter Try.func146, Try.ntmps146
  refine seq_stop ?_
  go_wp2
  refine stop_go (fun W hW => ?_)
  have s1 : w.heap.size < W.heap.size := by rw [hW]; simp only [World.size_alloc]; omega
  have b1 : ∀ i, W.cell? ⟨w.heap.size, i, none⟩ = (#[.slice (some ⟨bm, 0, none⟩) m.ws.length cm, .int .i64 m.off, .int .i64 m.rows, .int .i64 m.cols, .int .i64 m.ld] : Array Value)[i]? := by intro i; rw [hW]; go_simp
  have s2 : w.heap.size + 1 < W.heap.size := by rw [hW]; simp only [World.size_alloc]; omega
  have b2 : ∀ i, W.cell? ⟨w.heap.size + 1, i, none⟩ = (#[.slice (some ⟨bx, 0, none⟩) x.ws.length cx, .int .i64 x.off, .int .i64 x.n, .int .i64 x.inc] : Array Value)[i]? := by intro i; rw [hW]; go_simp
  have s3 : w.heap.size + 1 + 1 < W.heap.size := by rw [hW]; simp only [World.size_alloc]; omega
  have b3 : ∀ i, W.cell? ⟨w.heap.size + 1 + 1, i, none⟩ = (#[.slice (some ⟨g, 0, none⟩) y.ws.length cg, .int .i64 y.off, .int .i64 y.n, .int .i64 y.inc] : Array Value)[i]? := by intro i; rw [hW]; go_simp
  have g0 : Grew w W := by rw [hW]; exact (((Grew.refl _).alloc _).alloc _).alloc _
  clear hW
  have zW := g0.below.size
  have bw : ∀ w', But W [g] w' → But w [g] w' := fun w' h => ((But.refl w [g]).grew g0).trans h (fun _ hb => .inl hb)
  have c1 : ∀ w', But W [g] w' → ∀ i, w'.cell? ⟨w.heap.size, i, none⟩ = (#[.slice (some ⟨bm, 0, none⟩) m.ws.length cm, .int .i64 m.off, .int .i64 m.rows, .int .i64 m.cols, .int .i64 m.ld] : Array Value)[i]? := fun w' h i => (h.cell s1 (by simp; omega)).trans (b1 i)
  have c2 : ∀ w', But W [g] w' → ∀ i, w'.cell? ⟨w.heap.size + 1, i, none⟩ = (#[.slice (some ⟨bx, 0, none⟩) x.ws.length cx, .int .i64 x.off, .int .i64 x.n, .int .i64 x.inc] : Array Value)[i]? := fun w' h i => (h.cell s2 (by simp; omega)).trans (b2 i)
  have c3 : ∀ w', But W [g] w' → ∀ i, w'.cell? ⟨w.heap.size + 1 + 1, i, none⟩ = (#[.slice (some ⟨g, 0, none⟩) y.ws.length cg, .int .i64 y.off, .int .i64 y.n, .int .i64 y.inc] : Array Value)[i]? := fun w' h i => (h.cell s3 (by simp; omega)).trans (b3 i)
  have cA : ∀ w', But w [g] w' → ∀ i, w'.cell? ⟨Ta, i, none⟩ = (#[.float .f64 a] : Array Value)[i]? := fun w' h i => (h.cell kTa (by simpa using nTa)).trans (hca i)
  have hFW := hF.grew g0
  clear b1 b2 b3
  have t2 := c2 _ (But.refl W [g])
  go_wp2
  clear t2
  go_loopw [13] (fun c wr => ∃ (j : Nat) (L : List Nat), (j : Int) ≤ x.n ∧ c = .int .i64 j ∧ But W [g] wr ∧ FW wr g L ∧ VH y L (fun r => mulTo α m.num x.num (s0 r) r j)) (fun c _ => (x.n - intOf c).toNat)
  case atStart => exact ⟨0, L0, hnx.1, rfl, But.refl _ _, hFW, hV⟩
  case round =>
    obtain ⟨j, L, hj, rfl, hB, hL, hS⟩ := hrel
    have t1 := c1 _ hB
    have zB := hB.size
    have k1 : w.heap.size < wr.heap.size := by omega
    have t3 := c3 _ hB
    have k3 : w.heap.size + 1 + 1 < wr.heap.size := by omega
    by_cases hlt : (j : Int) < x.n
    · have hlt' := hid hlt
      have hjm : (j : Int) < m.cols := by have := Hxn.out; omega
      have hcj := hcolA wr L _ (bw _ hB) hL hS j hjm
      go_wp2_with (first | (go_at_call 149; ((with_reducible refine (hcj).mono ?_); rintro e w1 ⟨rfl, oc, nc, rfl⟩)))
      refine name_any (fun V hV => ?_)
      have gV : Grew wr V := by rw [← hV]; (show Grew _ _; repeat (first | (with_reducible exact Grew.refl _) | (with_reducible assumption) | (with_reducible exact Grew.same_o) | (with_reducible exact Grew.app_o) | (with_reducible refine Grew.ext ?_ _ _) | (with_reducible refine Grew.alloc ?_ _) | ((with_reducible refine Grew.setCell ?_ ?_ _); rotate_left; (focus (dsimp only; first | omega | (simp only [size_ext, World.size_alloc, Array.size_append]; omega)))) | (with_reducible refine Grew.drewN ?_ _) | (with_reducible refine Grew.drew ?_)))
      have BV : But W [g] V := hB.grew gV
      have cT : ∀ i, V.cell? ⟨wr.heap.size + oc.size, i, none⟩ = (#[.slice (some ⟨bm, 0, none⟩) m.ws.length cm, .int .i64 (m.off + j * m.ld), .int .i64 m.rows, .int .i64 1] : Array Value)[i]? := by subst hV; intro i; go_simp
      have kV : wr.heap.size + oc.size < V.heap.size := by rw [← hV]; simp only [World.size_alloc, size_ext]; omega
      obtain ⟨T, hT⟩ : ∃ T, wr.heap.size + oc.size = T := ⟨_, rfl⟩
      have zT : wr.heap.size ≤ T := by omega
      rw [hT] at cT kV
      simp only [hT]
      have ltg2 := hL.lt
      have cV : ∀ w', But V [g] w' → ∀ i, w'.cell? ⟨T, i, none⟩ = (#[.slice (some ⟨bm, 0, none⟩) m.ws.length cm, .int .i64 (m.off + j * m.ld), .int .i64 m.rows, .int .i64 1] : Array Value)[i]? := fun w' h i => (h.cell kV (by simp; omega)).trans (cT i)
      have bV : ∀ w', But V [g] w' → But W [g] w' := fun w' h => BV.trans h (fun _ hb => .inl hb)
      have hLV : FW V g L := hL.grew gV
      clear hV hT cT t3
      go_loopw [21] (fun c wr => ∃ (i : Nat) (L : List Nat), (i : Int) ≤ y.n ∧ c = .int .i64 i ∧ But V [g] wr ∧ FW wr g L ∧ VH y L (fun r => if r < i then mulTo α m.num x.num (s0 r) r (j + 1) else mulTo α m.num x.num (s0 r) r j)) (fun c _ => (y.n - intOf c).toNat)
      case atStart => exact ⟨0, L, hny.1, rfl, But.refl _ _, hLV, hS.congr fun r _ => by simp⟩
      case round =>
        obtain ⟨i, L2, hi, rfl, hB2, hL2, hS2⟩ := hrel
        by_cases hli : (i : Int) < y.n
        · have hli' := hid hli
          have him : (i : Int) < m.rows := by have := Hyn.out; omega
          have tT := cV _ hB2
          have t2 := c2 _ (bV _ hB2)
          have t3 := c3 _ (bV _ hB2)
          have zB2 := hB2.size
          have zBV := BV.size
          have x1 : T < wr.heap.size := by omega
          have x2 : w.heap.size + 1 < wr.heap.size := by omega
          have x3 : w.heap.size + 1 + 1 < wr.heap.size := by omega
          have hgi := hS2.get i hli
          obtain ⟨r0, hr0, hf0⟩ := hL2.get (i := y.place i) (by rw [hS2.len]; exact VecM.place_lt Hy.out hli)
          rw [hgi, if_neg (by omega)] at hf0
          obtain ⟨rm, hrm, hfm⟩ := rdm i j him hjm wr L2 _ (bw _ (bV _ hB2)) hL2 hS2
          obtain ⟨rx, hrx, hfx⟩ := rdx j hlt'.out wr L2 _ (bw _ (bV _ hB2)) hL2 hS2
          have gl := hL2.lt
          have kbm2 : bm < wr.heap.size := by omega
          have kbx2 : bx < wr.heap.size := by omega
          have kTa2 : Ta < wr.heap.size := by omega
          have fz : ∀ i, wr.frozen? ⟨g, i, none⟩ = false := hL2.notFrozen
          have hca2 : ∀ w', Grew wr w' → ∀ i, w'.cell? ⟨Ta, i, none⟩ = (#[.float .f64 a] : Array Value)[i]? := fun w' hg => cA _ (bw _ (bV _ (hB2.grew hg)))
          have hay := haty i hli
          have hax := hatx j hlt'.out
          have ham := hatm i j him hjm
          go_wp2
          refine wp_region_R (Grew wr) [19] [(0,0), (3,1), (3,5), (0,6), (3,7), (0,11), (3,12), (1,2), (3,3), (0,4), (1,8), (3,9), (0,10), (1,13), (3,14), (0,15), (1,16), (1,17), (3,18), (2,19)] (by kernel_rfl) (by kernel_rfl) (fun _ _ _ _ h _ => h) (by first | exact ⟨_, _, ext_drew⟩ | exact ⟨_, _, drew_ext0⟩ | (show Grew _ _; repeat (first | (with_reducible exact Grew.refl _) | (with_reducible assumption) | (with_reducible exact Grew.same_o) | (with_reducible exact Grew.app_o) | (with_reducible refine Grew.ext ?_ _ _) | (with_reducible refine Grew.alloc ?_ _) | ((with_reducible refine Grew.setCell ?_ ?_ _); rotate_left; (focus (dsimp only; first | omega | (simp only [size_ext, World.size_alloc, Array.size_append]; omega)))) | (with_reducible refine Grew.drewN ?_ _) | (with_reducible refine Grew.drew ?_)))) ?_
          go_wp2_with (first | ((with_reducible refine wpR_id ?_); first | (refine wpR_take (v := ?_) rfl rfl ?_ ?_; rotate_left; (focus (rintro w' ⟨o', n', rfl⟩; go_simp; try with_reducible rfl)); simp only [Act.put, List.setIfInBounds_toArray, List.set_cons_zero, List.set_cons_succ]) | (refine wpR_pure (v := ?_) rfl rfl ?_ ?_; rotate_left; (focus (intro w'; go_simp; try with_reducible rfl)); simp only [Act.put, List.setIfInBounds_toArray, List.set_cons_zero, List.set_cons_succ]) | (refine wpR_takeG (v := ?_) rfl rfl rfl rfl rfl ?_ ?_; rotate_left; (focus (rintro w' ⟨o', n', rfl⟩; go_simp; try with_reducible rfl)); simp only [Act.put, List.setIfInBounds_toArray, List.set_cons_zero, List.set_cons_succ]) | (refine wpR_skip rfl rfl rfl rfl rfl rfl ?_; simp only [Act.put, List.setIfInBounds_toArray, List.set_cons_zero, List.set_cons_succ]) | (refine wpR_skipU rfl rfl rfl rfl rfl ?_; simp only [Act.put, List.setIfInBounds_toArray, List.set_cons_zero, List.set_cons_succ]) | (refine wpR_do rfl rfl (fun K hK => ?_)) | (refine wpR_doG rfl rfl rfl rfl rfl (fun K hK => ?_)) | (refine wpR_last rfl rfl (fun K hK => ?_)) | (refine wpR_nil ?_)) | ((with_reducible refine wpR_go ?_ ?_); (focus exact ⟨_, _, rfl⟩)) | ((with_reducible refine upon_id ?_); refine upon_fop rfl (by assumption) (by assumption) ?_; intro rr nn hr) | (go_at_call 160; ((with_reducible refine (hay _).mono ?_); rintro e w1 ⟨rfl, o1, n1, rfl⟩)) | (go_at_call 160; ((with_reducible refine (ham _).mono ?_); rintro e w1 ⟨rfl, o2, n2, rfl⟩)) | (go_at_call 160; ((with_reducible refine (hax _).mono ?_); rintro e w1 ⟨rfl, o3, n3, rfl⟩)) | (go_at_call 147; ((with_reducible refine (hmc rm _ rx _ _ hfm hfx (hca2 _ (by (show Grew _ _; repeat (first | (with_reducible exact Grew.refl _) | (with_reducible assumption) | (with_reducible exact Grew.same_o) | (with_reducible exact Grew.app_o) | (with_reducible refine Grew.ext ?_ _ _) | (with_reducible refine Grew.alloc ?_ _) | ((with_reducible refine Grew.setCell ?_ ?_ _); rotate_left; (focus (dsimp only; first | omega | (simp only [size_ext, World.size_alloc, Array.size_append]; omega)))) | (with_reducible refine Grew.drewN ?_ _) | (with_reducible refine Grew.drew ?_)))))).mono ?_); rintro e w1 ⟨rc, rfl, hrc, o4, n4, rfl⟩)))
          go_roundw
          case rel =>
            refine ⟨i + 1, _, by have := hli'.out; omega, by go_num, (hB2.setc hL2 (by simp)).grew ⟨_, _, rfl⟩, (hL2.setc (k := y.place i) hr).ext _ _, (hS2.set Hy.out hli'.out).congr fun r hr => ?_⟩
            by_cases e : r = i
            · subst e; simp [mulTo]; rfl
            · rw [if_neg e]
              by_cases h2 : r < i
              · rw [if_pos h2, if_pos (by omega)]
              · rw [if_neg h2, if_neg (by omega)]
          case measure => (have := hli'.out; simp [intOf]; omega)
        · go_wp2
          go_roundw
          case rel => exact ⟨j + 1, L2, by have := hlt'.out; omega, by go_num, bV _ hB2, hL2, hS2.congr fun r hr => by rw [if_pos (by omega)]⟩
          case measure => (have := hlt'.out; simp [intOf]; omega)
    · have e : j = x.n.toNat := by omega
      go_wp2
      go_end0
      exact ⟨rfl, bw _ hB, L, hL, hS.congr fun r hr => by rw [e]⟩
end Go.Proofs.Ytcmggfpcbijcjaa
end
