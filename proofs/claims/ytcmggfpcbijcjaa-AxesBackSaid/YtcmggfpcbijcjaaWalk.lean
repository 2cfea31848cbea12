/-
  Laws of walks that the texts of this seat share: floats within a walk, what a slice reads as.
-/
import Derived.Test.YtcmggfpcbijcjaaFlt
import Derived.WalkKit
import Derived.WalkLawsBesides
import Derived.WalkSpells
import Derived.Deep.Draws
import Derived.Laws.FloatBits
set_option linter.unusedSimpArgs false
set_option linter.unusedVariables false
namespace Sedge
open Go Go.RowKit

/-- A stop for the walk between two pieces of code: here the world is given a name. -/
def Stop (K : Act → World → Prop) (a : Act) (w : World) : Prop := K a w
theorem seq_stop {P : Program} {x y : Code} {Q : Exit → Act → World → Prop} {a : Act} {w : World}
    (h : x.wp P (Exit.then (Stop (y.wp P Q)) Q) a w) : (Code.seq x y).wp P Q a w := wp_seq h
theorem stop_go {K : Act → World → Prop} {a : Act} {w : World} (h : ∀ W, W = w → K a W) : Stop K a w := h _ rfl
theorem name_world {P : Program} {c : Code} {Q : Exit → Act → World → Prop} {a : Act} {w : World} (h : ∀ W, W = w → c.wp P Q a W) : c.wp P Q a w := h _ rfl

theorem hid {p : Prop} (h : p) : Hid p := h

/-- What '+', '-', '*', '/' give, of canonical words. -/
def fop : BinOp → Nat → Nat → Nat
  | .add => fadd
  | .sub => fsub
  | .mul => fmul
  | .quo => fdiv
  | _ => fun _ _ => QN
def fbits : BinOp → Nat → Nat → Option Nat
  | .add => D64.add
  | .sub => D64.sub
  | .mul => D64.mul
  | .quo => D64.div
  | _ => fun _ _ => none
def isArith : BinOp → Bool
  | .add | .sub | .mul | .quo => true
  | _ => false

theorem isNan_of_cut (t x y : Nat) : (Question.nanBits .f64 x y).cut t < 2 ^ 64 ∧ isNan ((Question.nanBits .f64 x y).cut t) = true := by
  show (t % 2) * 2 ^ 63 + 0x7ff0000000000000 + 1 + (t / 2) % (2 ^ 52 - 1) < 2 ^ 64 ∧ isNan ((t % 2) * 2 ^ 63 + 0x7ff0000000000000 + 1 + (t / 2) % (2 ^ 52 - 1)) = true
  have h1 : (t / 2) % (2 ^ 52 - 1) < 2 ^ 52 - 1 := Nat.mod_lt _ (by decide)
  have h2 : t % 2 < 2 := Nat.mod_lt _ (by decide)
  generalize (t / 2) % (2 ^ 52 - 1) = q at *
  refine ⟨by omega, ?_⟩
  have e : (t % 2) * 2 ^ 63 + 0x7ff0000000000000 + 1 + q = D64.word (t % 2 == 1) (0x7ff0000000000000 + 1 + q) := by
    unfold Ieee.Format.word
    rw [signWeight_eq]
    rcases Nat.lt_or_ge (t % 2) 1 with h | h
    · have : t % 2 = 0 := by omega
      rw [this]; simp
    · have : t % 2 = 1 := by omega
      rw [this]; simp [SW]; omega
  rw [e]
  unfold isNan
  rw [read_word _ _ (by unfold SW; omega), if_neg (by unfold BN; omega), if_neg (by unfold IR; omega), if_neg (by unfold IR; omega)]
  rfl

theorem fop_notnan {op : BinOp} {x y r : Nat} (h : fbits op x y = some r) : isNan r = false := by
  cases op <;> simp only [fbits] at h <;> first | exact add_notnan h | exact sub_notnan h | exact mul_notnan h | exact div_notnan h | cases h
theorem fop_lt {op : BinOp} {x y r : Nat} (h : fbits op x y = some r) : r < 2 ^ 64 := by
  have e : (2 : Nat) ^ D64.width = 2 ^ 64 := by decide +kernel
  rw [← e]
  cases op <;> simp only [fbits] at h <;> first | exact D64.add_lt h | exact D64.sub_lt h | exact D64.mul_lt h | exact D64.div_lt h | cases h
theorem fop_eq {op : BinOp} (hop : isArith op = true) (x y : Nat) : fop op (canon x) (canon y) = (fbits op x y).getD QN := by
  cases op <;> simp only [isArith] at hop <;> first | cases hop | skip
  · simp only [fop, fbits, fadd, add_canon]
  · simp only [fop, fbits, fsub, sub_canon]
  · simp only [fop, fbits, fmul, mul_canon]
  · simp only [fop, fbits, fdiv, div_canon]

theorem upon_id {P : Program} {o : Oper} {a : Act} {K : Act → World → Prop} {Q : Exit → Act → World → Prop} {w : World} {op : BinOp} {t : TypeId} {b c : Nat} {f : Value → World → Result Next}
    (h : o.upon P a K Q ((Sem.run P (binOp op t (.float .f64 b) (.float .f64 c)) w).andThen f)) : o.upon P a K Q ((Sem.run P (binOp op t (.float .f64 b) (.float .f64 c)) w).andThen f) := h
/-- THE WALK's ARM FOR '+', '-', '*', '/' ON FLOATS: some word that stands for the result; perhaps one draw. -/
theorem upon_fop {P : Program} {o : Oper} {a : Act} {K : Act → World → Prop} {Q : Exit → Act → World → Prop} {w : World} {op : BinOp} {t : TypeId} {b c x y : Nat}
    (hop : isArith op = true) (hx : IsF b x) (hy : IsF c y)
    (h : ∀ r n, IsF r (fop op x y) → K (a.put o.dst (.float .f64 r)) (w.drewN n)) :
    o.upon P a K Q ((Sem.run P (binOp op t (.float .f64 b) (.float .f64 c)) w).andThen fun v w' => .ok (.value v) w') := by
  have hrun : Sem.run P (binOp op t (.float .f64 b) (.float .f64 c)) w = match fbits op b c with
      | some r => .ok (.float .f64 r) w
      | none => .ok (.float .f64 ((Question.nanBits .f64 b c).cut (w.tape w.drawn (.nanBits .f64 b c)))) (w.drewN 1) := by
    cases op <;> simp only [isArith] at hop <;> first | cases hop | skip
    · have e : FloatKind.f64.format.add b c = D64.add b c := rfl
      show Sem.run P (Op.floatArith .add .f64 b c) w = match D64.add b c with
        | some r => Result.ok (Value.float .f64 r) w
        | none => .ok (.float .f64 ((Question.nanBits .f64 b c).cut (w.tape w.drawn (.nanBits .f64 b c)))) (w.drewN 1)
      unfold Op.floatArith
      simp only [e]
      cases D64.add b c <;> rfl
    · have e : FloatKind.f64.format.sub b c = D64.sub b c := rfl
      show Sem.run P (Op.floatArith .sub .f64 b c) w = match D64.sub b c with
        | some r => Result.ok (Value.float .f64 r) w
        | none => .ok (.float .f64 ((Question.nanBits .f64 b c).cut (w.tape w.drawn (.nanBits .f64 b c)))) (w.drewN 1)
      unfold Op.floatArith
      simp only [e]
      cases D64.sub b c <;> rfl
    · have e : FloatKind.f64.format.mul b c = D64.mul b c := rfl
      show Sem.run P (Op.floatArith .mul .f64 b c) w = match D64.mul b c with
        | some r => Result.ok (Value.float .f64 r) w
        | none => .ok (.float .f64 ((Question.nanBits .f64 b c).cut (w.tape w.drawn (.nanBits .f64 b c)))) (w.drewN 1)
      unfold Op.floatArith
      simp only [e]
      cases D64.mul b c <;> rfl
    · have e : FloatKind.f64.format.div b c = D64.div b c := rfl
      show Sem.run P (Op.floatArith .quo .f64 b c) w = match D64.div b c with
        | some r => Result.ok (Value.float .f64 r) w
        | none => .ok (.float .f64 ((Question.nanBits .f64 b c).cut (w.tape w.drawn (.nanBits .f64 b c)))) (w.drewN 1)
      unfold Op.floatArith
      simp only [e]
      cases D64.div b c <;> rfl
  rw [hrun]
  have he := fop_eq hop b c
  rw [hx.2, hy.2] at he
  cases hb : fbits op b c with
  | some r =>
    rw [hb] at he
    exact h r 0 ⟨fop_lt hb, by rw [canon_not (fop_notnan hb), he]; rfl⟩
  | none =>
    rw [hb] at he
    obtain ⟨h1, h2⟩ := isNan_of_cut (w.tape w.drawn (.nanBits .f64 b c)) b c
    exact h _ 1 ⟨h1, by rw [canon_nan h2, he]; rfl⟩

end Sedge
