/-
  Contracts on tables, as a matrix's rows and columns give their sizes.
-/
import Derived.Test.YtcmggfpcbijcjaaGrid
import Derived.Test.YtcmggfpcbijcjaaInto
open Go Go.RowKit Sedge
namespace Go.Proofs.Ytcmggfpcbijcjaa
theorem tab_len (x : MatM) : x.tab.length = x.rows.toNat * x.cols.toNat := by unfold MatM.tab MatM.tabTo; simp
theorem rrows_i (x : MatM) (i k g cap : Nat) (ws : List Nat) (w : World) (hF : FW w g ws) (hlen : ws.length = x.rows.toNat * x.cols.toNat) (hx : x.good = true) (hr : x.rows ≤ 1000) (hc : x.cols ≤ 1000) (hi : (i : Int) < x.rows) (hk : (k : Int) < x.rows) :
   Calls Try.prog 49 #[.agg #[.int .i64 x.rows, .int .i64 x.cols, .slice (some ⟨g, 0, none⟩) ws.length cap], .int .i64 i, .int .i64 k] w
     (fun e w' => e = .returned (.tuple #[]) ∧ Wrote w w' g (rrowsL x.cols.toNat ws i k)) := by
  have hn := x.good_n hx
  have := rrows_any x.rows.toNat x.cols.toNat i k g cap ws w hF hlen (by omega) (by omega) (by omega) (by omega)
  rwa [← hlen, Int.toNat_of_nonneg hn.1, Int.toNat_of_nonneg hn.2.1] at this
theorem rtake_i (x : MatM) (g cap : Nat) (ws : List Nat) (O : Value) (zs : List Int) (w : World) (hF : FW w g ws) (hO : IS .i64 w O zs) (hng : ∀ a l c, 0 < zs.length → O = .slice (some a) l c → a.block < g) (hlen : ws.length = x.rows.toNat * x.cols.toNat) (hx : x.good = true) (hr : x.rows ≤ 1000) (hc : x.cols ≤ 1000) :
   Calls Try.prog 50 #[.agg #[.int .i64 x.rows, .int .i64 x.cols, .slice (some ⟨g, 0, none⟩) ws.length cap], O] w
     (fun e w' => e = .returned (.int .i64 (takeE x.rows zs)) ∧ Wrote w w' g (rtakeL x.rows.toNat x.cols.toNat ws zs)) := by
  have hn := x.good_n hx
  have := rtake_any x.rows.toNat x.cols.toNat g cap ws O zs w hF hO hng hlen (by omega) (by omega)
  rwa [← hlen, Int.toNat_of_nonneg hn.1, Int.toNat_of_nonneg hn.2.1] at this
theorem rinto_i (x : MatM) (D A : Value) (ts : List Nat) (w : World) (hD : FS w D x.ws) (hA : FS w A ts) (hx : x.good = true) (hr : x.rows ≤ 1000) (hc : x.cols ≤ 1000) (hl : x.ws.length ≤ 1000000) (ht : ts.length = x.rows.toNat * x.cols.toNat) :
   Calls Try.prog 51 #[.agg #[D, .int .i64 x.off, .int .i64 x.rows, .int .i64 x.cols, .int .i64 x.ld], .agg #[.int .i64 x.rows, .int .i64 x.cols, A]] w
     (fun e w' => ∃ v, e = .returned v ∧ WS w' w.heap.size v (x.into x.rows.toNat x.cols.toNat ts) ∧ ∃ o n, w' = ext w o n) := by
  have hn := x.good_n hx
  have := rinto_any x D A x.rows.toNat x.cols.toNat ts w hD hA hx (by omega) (by omega) (by omega) (by omega) hl ht
  rwa [Int.toNat_of_nonneg hn.1, Int.toNat_of_nonneg hn.2.1] at this
end Go.Proofs.Ytcmggfpcbijcjaa
