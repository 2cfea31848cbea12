/-
  How the laws' arguments read: slices of floats and of integers, vectors, matrices.
-/
import Derived.Test.YtcmggfpcbijcjaaMem
import Derived.ProofKit
import Derived.OpenShut
import Derived.Deep.Fields
set_option linter.unusedSimpArgs false
set_option linter.unusedVariables false
namespace Sedge
open Go Go.RowKit Go.ChangeShapes Go.WideShapes Go.Deep

/-- The slice v reads, in w, as the integers zs of a kind. -/
def IS (k : IntKind) (w : World) (v : Value) (zs : List Int) : Prop :=
  zs.length ≤ 9223372036854775807 ∧ ∃ a cap, v = .slice a zs.length cap ∧
    ∀ i, i < zs.length → ∃ blk o, a = some ⟨blk, o, none⟩ ∧ w.cell? ⟨blk, o + i, none⟩ = some (.int k (zs.getD i 0))
theorem IS.len {k : IntKind} {w : World} {v : Value} {zs : List Int} (h : IS k w v zs) : zs.length ≤ 9223372036854775807 := h.1
theorem IS.shape {k : IntKind} {w : World} {v : Value} {zs : List Int} (h : IS k w v zs) : ∃ a cap, v = .slice a zs.length cap := by
  obtain ⟨_, a, cap, rfl, _⟩ := h; exact ⟨a, cap, rfl⟩
theorem IS.at {k : IntKind} {w : World} {a : Option Addr} {n cap : Nat} {zs : List Int} (h : IS k w (.slice a n cap) zs) : n = zs.length ∧ (0 < zs.length → ∃ blk o, a = some ⟨blk, o, none⟩ ∧ blk < w.heap.size ∧
      ∀ i, i < zs.length → w.cell? ⟨blk, o + i, none⟩ = some (.int k (zs.getD i 0))) := by
  obtain ⟨_, a', cap', e, hc⟩ := h
  cases e
  refine ⟨rfl, fun hn => ?_⟩
  obtain ⟨blk, o, rfl, h1⟩ := hc 0 hn
  refine ⟨blk, o, rfl, World.block_lt_of_cell? w _ h1, fun i hi => ?_⟩
  obtain ⟨blk', o', he, h1'⟩ := hc i hi
  cases he
  exact h1'
theorem IS.same {k : IntKind} {w w' : World} {v : Value} {zs : List Int} (h : IS k w v zs) (hs : ∀ a : Addr, a.block < w.heap.size → w'.cell? a = w.cell? a) : IS k w' v zs := by
  obtain ⟨hl, a, cap, hv, hc⟩ := h
  refine ⟨hl, a, cap, hv, fun i hi => ?_⟩
  obtain ⟨blk, o, h0, h1⟩ := hc i hi
  exact ⟨blk, o, h0, by rw [hs _ (World.block_lt_of_cell? w _ h1)]; exact h1⟩
theorem IS.grew {k : IntKind} {w w' : World} {v : Value} {zs : List Int} (h : IS k w v zs) (g : Grew w w') : IS k w' v zs := h.same fun _ ha => g.below.cell ha
theorem IS.ext {k : IntKind} {w : World} {v : Value} {zs : List Int} (h : IS k w v zs) (o : Array Obj) (n : Nat) : IS k (ext w o n) v zs := h.grew ⟨_, _, rfl⟩
theorem IS.alloc {k : IntKind} {w : World} {v : Value} {zs : List Int} (h : IS k w v zs) (o : Obj) : IS k (w.alloc o) v zs := h.grew ((Grew.refl _).alloc o)

section
variable {H : Type} {enc : TypeId × Value → H} {P : Program} {w : World} {base : Nat} {spare : Nat → Bool} {held : Bool}

def bitsAt (w : World) (a : Addr) (i : Nat) : Nat := match w.cell? (a.add i) with
  | some (.float _ b) => b
  | _ => 0

theorem trod_float {t : TypeId} {fuel : Nat} {cs : List Value} {x : DataW H × List MemPlace} (ht : P.underlying t = some (.float .f64)) (h : DataW.trod enc P w base spare held fuel t cs = some x) :
    ∃ b, cs = [.float .f64 b] ∧ b < 2 ^ 64 := by
  cases fuel with
  | zero => simp [DataW.trod] at h
  | succ n =>
    unfold DataW.trod at h
    rw [ht] at h
    split at h <;> simp_all
    all_goals
      rename_i hk
      obtain ⟨⟨_, hw⟩, _⟩ := h
      subst hk
      simpa [Lit.wf] using hw

theorem add_zero_addr (a : Addr) : a.add 0 = a := by simp [Addr.add]
theorem add_none {a : Addr} (h : a.spot = none) (i : Nat) : a.add i = ⟨a.block, a.off + i, none⟩ := by
  unfold Addr.add
  split
  · rename_i h0; subst h0; cases a; simp at h; subst h; rfl
  · rfl

theorem openF {t e : TypeId} {fuel : Nat} {v : Value} {x : DataW H × List MemPlace} (ht : P.underlying t = some (.slice e)) (he : P.underlying e = some (.float .f64)) (hc : P.cellsOf e = 1)
    (h : DataW.trod enc P w base spare held fuel t [v] = some x) : ∃ ws, FS w v ws := by
  rcases DataW.trod_slice ht h with ⟨h0, _⟩ | ⟨a, len, cap, elems, rest, n, _, h0, _, _, hl, hm, hlen, hel, _, _⟩
  · obtain rfl : v = .slice none 0 0 := by simpa using h0
    exact ⟨[], FS.nil w⟩
  · obtain rfl : v = .slice (some a) len cap := by simpa using h0
    have each : ∀ i, i < len → ∃ b, w.cell? (a.add i) = some (.float .f64 b) ∧ b < 2 ^ 64 := by
      intro i hi
      have h1 := hel i hi
      rw [List.getElem?_eq_getElem (by omega), hc, Nat.mul_one, Option.bind_eq_some_iff] at h1
      obtain ⟨cs', hcs, hy⟩ := h1
      obtain ⟨b, rfl, hb⟩ := trod_float he hy
      exact ⟨b, cell_of_cells?_one hcs, hb⟩
    refine ⟨(List.range len).map fun i => canon (bitsAt w a i), by simp [maxLen] at hm ⊢; omega, some a, cap, by simp, (fun h => by cases h), fun i hi => ?_⟩
    have hi' : i < len := by simpa using hi
    obtain ⟨b0, hb0, _⟩ := each 0 (by omega)
    rw [add_zero_addr] at hb0
    have hs := World.cell?_spot hb0
    obtain ⟨b, hb, hlt⟩ := each i hi'
    refine ⟨a.block, a.off, b, ?_, ?_, hlt, ?_⟩
    · cases a; simp at hs; subst hs; rfl
    · rw [← add_none hs]; exact hb
    · simp [List.getD_eq_getElem?_getD, hi', bitsAt, hb]

theorem openI {k : IntKind} {t e : TypeId} {fuel : Nat} {v : Value} {x : DataW H × List MemPlace} (ht : P.underlying t = some (.slice e)) (he : P.underlying e = some (.int k)) (hc : P.cellsOf e = 1)
    (h : DataW.trod enc P w base spare held fuel t [v] = some x) : ∃ zs, IS k w v zs ∧ ∀ z ∈ zs, k.min ≤ z ∧ z ≤ k.max := by
  rcases DataW.trod_slice ht h with ⟨h0, _⟩ | ⟨a, len, cap, elems, rest, n, _, h0, _, _, hl, hm, hlen, hel, _, _⟩
  · obtain rfl : v = .slice none 0 0 := by simpa using h0
    exact ⟨[], ⟨by simp, none, 0, rfl, fun i hi => by simp at hi⟩, fun z hz => by simp at hz⟩
  · obtain rfl : v = .slice (some a) len cap := by simpa using h0
    have each : ∀ i, i < len → ∃ b, w.cell? (a.add i) = some (.int k b) ∧ (Lit.int k b).wf = true := by
      intro i hi
      have h1 := hel i hi
      rw [List.getElem?_eq_getElem (by omega), hc, Nat.mul_one, Option.bind_eq_some_iff] at h1
      obtain ⟨cs', hcs, hy⟩ := h1
      obtain ⟨b, rfl, _, hb⟩ := DataW.trod_int he hy
      exact ⟨b, cell_of_cells?_one hcs, hb⟩
    let f : Nat → Int := fun i => match w.cell? (a.add i) with | some (.int _ b) => b | _ => 0
    refine ⟨(List.range len).map f, ⟨by simp [maxLen] at hm ⊢; omega, some a, cap, by simp, fun i hi => ?_⟩, fun z hz => ?_⟩
    · have hi' : i < len := by simpa using hi
      obtain ⟨b0, hb0, _⟩ := each 0 (by omega)
      rw [add_zero_addr] at hb0
      have hs := World.cell?_spot hb0
      obtain ⟨b, hb, _⟩ := each i hi'
      refine ⟨a.block, a.off, ?_, ?_⟩
      · cases a; simp at hs; subst hs; rfl
      · rw [← add_none hs, hb]
        simp [List.getD_eq_getElem?_getD, hi', f, hb]
    · obtain ⟨i, hi, rfl⟩ := List.mem_map.1 hz
      obtain ⟨b, hb, hw⟩ := each i (by simpa using hi)
      have : f i = b := by simp only [f, hb]
      rw [this]
      simpa [Lit.wf] using hw
theorem open_i64 {t : TypeId} {fuel : Nat} {v : Value} {x : DataW H × List MemPlace} (ht : P.underlying t = some (.int .i64)) (h : DataW.trod enc P w base spare held fuel t [v] = some x) :
    ∃ z, v = .int .i64 z ∧ I64 z := by
  obtain ⟨z, hv, _, hw⟩ := DataW.trod_int ht h
  refine ⟨z, by simpa using hv, ?_⟩
  simpa [Lit.wf, I64, IntKind.min, IntKind.max, IntKind.signed, IntKind.bits] using hw

/-- An aggregate of one-cell fields: each field's own cell and reading. -/
theorem open_fields {r : Reach} {b0 : Nat} {t : TypeId} {fs : Array Field} {v : Value} {d : DataW H} {p : List MemPlace} (hs : P.underlying t = some (.struct fs)) (hone : oneCellFields P fs = true)
    (hv : Value.okWide P w r b0 t v) (h : DataW.Trod enc P w base spare held t v d p) :
    ∃ cs : List Value, v = .agg cs.toArray ∧ cs.length = P.cellsOf t ∧ ∀ (i : Nat) (f : Field), fs[i]? = some f → ∀ c, cs[i]? = some c → ∃ n y, DataW.trod enc P w base spare held n f.type [c] = some y := by
  obtain ⟨cs, rfl, hsz⟩ := okWide_struct hs hv
  obtain ⟨fuel, hf⟩ := h
  obtain ⟨xs, n, _, _, _, hlen, hg⟩ := DataW.trod_struct hs hf
  refine ⟨cs.toList, by simp, by simpa using hsz, fun i f hi c hc => ?_⟩
  obtain ⟨o, k⟩ := hone_of hone i f hi
  have h1 := hg i f hi
  have hlt : i < fs.size := (Array.getElem?_eq_some_iff.1 hi).1
  rw [o, k, List.getElem?_eq_getElem (by omega)] at h1
  refine ⟨n, xs[i], ?_⟩
  rw [← h1]
  congr 1
  have hl : i < cs.toList.length := (List.getElem?_eq_some_iff.1 hc).1
  have hci := (List.getElem?_eq_some_iff.1 hc).2
  show [c] = List.take 1 (List.drop i cs.toList)
  rw [List.drop_eq_getElem_cons hl, hci]
  rfl

theorem openVec {r : Reach} {b0 : Nat} {t tD tE tI : TypeId} {fs : Array Field} {v : Value} {d : DataW H} {p : List MemPlace} (hs : P.underlying t = some (.struct fs)) (hone : oneCellFields P fs = true)
    (hf : fs.toList.map (·.type) = [tD, tI, tI, tI]) (hC : P.cellsOf t = 4) (hD : P.underlying tD = some (.slice tE)) (hE : P.underlying tE = some (.float .f64)) (hE1 : P.cellsOf tE = 1) (hI : P.underlying tI = some (.int .i64))
    (hv : Value.okWide P w r b0 t v) (h : DataW.Trod enc P w base spare held t v d p) :
    ∃ (m : VecM) (D : Value), v = .agg #[D, .int .i64 m.off, .int .i64 m.n, .int .i64 m.inc] ∧ FS w D m.ws ∧ m.wf := by
  obtain ⟨cs, rfl, hl, hg⟩ := open_fields hs hone hv h
  match cs, hl.trans hC with
  | [c0, c1, c2, c3], _ =>
    obtain ⟨fs⟩ := fs
    have hlen : fs.length = 4 := by simpa using congrArg List.length hf
    match fs, hf, hlen with
    | [f0, f1, f2, f3], hf, _ =>
      simp at hf
      obtain ⟨e0, e1, e2, e3⟩ := hf
      obtain ⟨n0, y0, h0⟩ := hg 0 f0 rfl c0 rfl
      obtain ⟨n1, y1, h1⟩ := hg 1 f1 rfl c1 rfl
      obtain ⟨n2, y2, h2⟩ := hg 2 f2 rfl c2 rfl
      obtain ⟨n3, y3, h3⟩ := hg 3 f3 rfl c3 rfl
      rw [e0] at h0; rw [e1] at h1; rw [e2] at h2; rw [e3] at h3
      obtain ⟨ws, hw⟩ := openF hD hE hE1 h0
      obtain ⟨z1, rfl, w1⟩ := open_i64 hI h1
      obtain ⟨z2, rfl, w2⟩ := open_i64 hI h2
      obtain ⟨z3, rfl, w3⟩ := open_i64 hI h3
      exact ⟨⟨ws, z1, z2, z3⟩, c0, rfl, hw, w1, w2, w3⟩
theorem openMat {r : Reach} {b0 : Nat} {t tD tE tI : TypeId} {fs : Array Field} {v : Value} {d : DataW H} {p : List MemPlace} (hs : P.underlying t = some (.struct fs)) (hone : oneCellFields P fs = true)
    (hf : fs.toList.map (·.type) = [tD, tI, tI, tI, tI]) (hC : P.cellsOf t = 5) (hD : P.underlying tD = some (.slice tE)) (hE : P.underlying tE = some (.float .f64)) (hE1 : P.cellsOf tE = 1) (hI : P.underlying tI = some (.int .i64))
    (hv : Value.okWide P w r b0 t v) (h : DataW.Trod enc P w base spare held t v d p) :
    ∃ (m : MatM) (D : Value), v = .agg #[D, .int .i64 m.off, .int .i64 m.rows, .int .i64 m.cols, .int .i64 m.ld] ∧ FS w D m.ws ∧ m.wf := by
  obtain ⟨cs, rfl, hl, hg⟩ := open_fields hs hone hv h
  match cs, hl.trans hC with
  | [c0, c1, c2, c3, c4], _ =>
    obtain ⟨fs⟩ := fs
    have hlen : fs.length = 5 := by simpa using congrArg List.length hf
    match fs, hf, hlen with
    | [f0, f1, f2, f3, f4], hf, _ =>
      simp at hf
      obtain ⟨e0, e1, e2, e3, e4⟩ := hf
      obtain ⟨n0, y0, h0⟩ := hg 0 f0 rfl c0 rfl
      obtain ⟨n1, y1, h1⟩ := hg 1 f1 rfl c1 rfl
      obtain ⟨n2, y2, h2⟩ := hg 2 f2 rfl c2 rfl
      obtain ⟨n3, y3, h3⟩ := hg 3 f3 rfl c3 rfl
      obtain ⟨n4, y4, h4⟩ := hg 4 f4 rfl c4 rfl
      rw [e0] at h0; rw [e1] at h1; rw [e2] at h2; rw [e3] at h3; rw [e4] at h4
      obtain ⟨ws, hw⟩ := openF hD hE hE1 h0
      obtain ⟨z1, rfl, w1⟩ := open_i64 hI h1
      obtain ⟨z2, rfl, w2⟩ := open_i64 hI h2
      obtain ⟨z3, rfl, w3⟩ := open_i64 hI h3
      obtain ⟨z4, rfl, w4⟩ := open_i64 hI h4
      exact ⟨⟨ws, z1, z2, z3, z4⟩, c0, rfl, hw, w1, w2, w3, w4⟩
end
end Sedge
