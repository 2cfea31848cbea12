/-
  Contracts: straightedgeref09.sub.
-/
import Derived.Test.YtcmggfpcbijcjaaTrsv3
import Derived.Test.YtcmggfpcbijcjaaTrsvLaw2
set_option linter.unusedSimpArgs false
set_option linter.unusedVariables false
open Go Go.RowKit Sedge
namespace Go.Proofs.Ytcmggfpcbijcjaa
theorem rsub_any (a b c x y z : Nat) (w : World) (hx : IsF a x) (hy : IsF b y) (hz : IsF c z) :
   Calls Try.prog 157 #[.float .f64 a, .float .f64 b, .float .f64 c] w (fun e w' => ∃ r, e = .returned (.float .f64 r) ∧ IsF r (fsub x (fmul y z)) ∧ ∃ o n, w' = ext w o n) := by
  go_enter Try.func157, Try.ntmps157
  go_wp2_with (first | (go_at_call 141; ((with_reducible refine (times_any b c y z _ hy hz).mono ?_); rintro e w1 ⟨r1, rfl, h1, o1, n1, rfl⟩)) | (go_at_call 183; ((with_reducible refine (less_any a _ x _ _ hx h1).mono ?_); rintro e w1 ⟨r2, rfl, h2, o2, n2, rfl⟩)))
  go_ret
  exact ⟨r2, rfl, h2, _, _, rfl⟩
end Go.Proofs.Ytcmggfpcbijcjaa
