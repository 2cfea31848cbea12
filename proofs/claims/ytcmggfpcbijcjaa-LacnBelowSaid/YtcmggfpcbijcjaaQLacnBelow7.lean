/-
  Texts laid one behind the other (a claim has at most 60 files): Dy8.
-/
import Derived.Test.YtcmggfpcbijcjaaQLacnBelow1
import Derived.Test.YtcmggfpcbijcjaaQLacnBelow2
import Derived.Test.YtcmggfpcbijcjaaQLacnBelow3
import Derived.Test.YtcmggfpcbijcjaaQLacnBelow4
import Derived.Test.YtcmggfpcbijcjaaQLacnBelow5
import Derived.Test.YtcmggfpcbijcjaaQLacnBelow6
section
/-
  Contracts: the reference's digits (layer 2): Add.
-/
set_option linter.unusedSimpArgs false
set_option linter.unusedVariables false
open Go Go.RowKit Sedge
namespace Go.Proofs.Ytcmggfpcbijcjaa
theorem DV.zero {w : World} {v : Value} {lo hi lo' hi' : Int} (h : DV w v 0 lo hi) : DV w v 0 lo' hi' := by
  obtain ⟨neg, L, E, l, a1, a2, a3, a4, a5, a6, a7⟩ := h
  exact ⟨neg, L, E, l, a1, a2, a3, a4, a5, a6, fun h => absurd (a5 (dat_eq_zero a4.symm)) h⟩
/-- Digits at places from F on, in sums. -/
theorem end_ok {a b : List Nat} {E F : Int} (hE : a = [] → E = 0) (hF : b = [] → F = 0) : (a = [] ∨ endF a b E F ≤ E ∧ E + a.length ≤ endF a b E F + (endT a b E F - endF a b E F).toNat) ∧ (b = [] ∨ endF a b E F ≤ F ∧ F + b.length ≤ endF a b E F + (endT a b E F - endF a b E F).toNat) := by
  have hle := end_le (a := a) (b := b) (E := E) (F := F)
  have e : endF a b E F + (endT a b E F - endF a b E F).toNat = endT a b E F := by omega
  rw [e]
  unfold endF endT
  constructor
  · by_cases ha : a = []
    · exact .inl ha
    · rw [if_neg ha, if_neg ha]; right
      split <;> omega
  · by_cases hb : b = []
    · exact .inl hb
    · rw [if_neg hb, if_neg hb]; right
      split <;> omega
theorem end_in {a b : List Nat} {E F lo hi : Int} (h : a ≠ [] ∨ b ≠ []) (ha : a ≠ [] → lo ≤ E ∧ E + a.length ≤ hi) (hb : b ≠ [] → lo ≤ F ∧ F + b.length ≤ hi) : lo ≤ endF a b E F ∧ endT a b E F ≤ hi := by
  unfold endF endT
  split
  · rename_i h1
    rcases h with h | h
    · exact absurd h1 h
    · exact hb h
  · rename_i h1
    have := ha h1
    split
    · exact this
    · rename_i h2
      have := hb h2
      omega
theorem sgn_or {n1 n2 : Bool} {x y : Rat} (h : n1 = n2 ∨ (x = 0 ∧ n1 = false) ∨ (y = 0 ∧ n2 = false)) : sgn (n1 || n2) * (x + y) = sgn n1 * x + sgn n2 * y := by
  rcases h with h | ⟨h, h'⟩ | ⟨h, h'⟩
  · subst h; rw [Bool.or_self]; grind
  · subst h h'; rw [Bool.false_or]; grind
  · subst h h'; rw [Bool.or_false]; grind
set_option maxRecDepth 100000 in
set_option maxHeartbeats 8000000 in
/-- Add. -/
theorem dadd_any (V1 V2 : Value) (p q : Rat) (lo hi : Int) (w : World) (h1 : DV w V1 p lo hi) (h2 : DV w V2 q lo hi) (hlo : -100000 ≤ lo) (hhi : hi ≤ 100000) :
   Calls Try.prog 31 #[V1, V2] w (fun e w' => ∃ v, e = .returned v ∧ DV w' v (p + q) lo (hi + 1) ∧ (∀ k, dBlock v = some k → w.heap.size ≤ k) ∧ ∃ o n, w' = ext w o n) := by
  obtain ⟨n1, L1, E, a, rfl, ha, hda, hp, hz1, he1, hr1⟩ := h1
  obtain ⟨n2, L2, F, b, rfl, hb, hdb, hq, hz2, he2, hr2⟩ := h2
  obtain ⟨s1', c1', e1⟩ := ha.shape
  obtain ⟨s2', c2', e2⟩ := hb.shape
  subst e1 e2
  have hE : -100000 ≤ E ∧ E ≤ 100000 ∧ a.length ≤ 200000 := by
    by_cases hl : a = []
    · subst hl; have := (he1 rfl).1; simp; omega
    · have := hr1 hl; omega
  have hF : -100000 ≤ F ∧ F ≤ 100000 ∧ b.length ≤ 200000 := by
    by_cases hl : b = []
    · subst hl; have := (he2 rfl).1; simp; omega
    · have := hr2 hl; omega
  have hle := end_le (a := a) (b := b) (E := E) (F := F)
  have hbd := end_bound (a := a) (b := b) (E := E) (F := F) (B := 200000) (by omega) (by omega) (by omega) (by omega)
  have hends : ∀ w', Grew w w' → Calls Try.prog 121 #[.agg #[.bool n1, .slice s1' a.length c1', .int .i64 E], .agg #[.bool n2, .slice s2' b.length c2', .int .i64 F]] w' (fun e w2 => e = .returned (.tuple #[.int .i64 (endF a b E F), .int .i64 (endT a b E F)]) ∧ ∃ o n, w2 = ext w' o n) := fun w' g =>
    ends_any n1 n2 _ _ E F a b w' (ha.grew g) (hb.grew g) (by omega) (by omega) (by omega) (by omega)
  have hsz : ∀ w', Grew w w' → Calls Try.prog 123 #[.agg #[.bool n1, .slice s1' a.length c1', .int .i64 E], .agg #[.bool n2, .slice s2' b.length c2', .int .i64 F]] w' (fun e w2 => e = .returned (.int .i64 (szE (fun k => digAt a E (endF a b E F + k)) (fun k => digAt b F (endF a b E F + k)) (endT a b E F - endF a b E F).toNat)) ∧ ∃ o n, w2 = ext w' o n) := fun w' g =>
    size_any n1 n2 _ _ E F a b w' (ha.grew g) (hb.grew g) hda hdb (by omega) (by omega) (by omega) (by omega)
  obtain ⟨k1, k2⟩ := end_ok (a := a) (b := b) (E := E) (F := F) (fun h => (he1 h).1) (fun h => (he2 h).1)
  have wf := ds_worth k1
  have wg := ds_worth k2
  have hin : a ≠ [] ∨ b ≠ [] → lo ≤ endF a b E F ∧ endT a b E F ≤ hi := fun h => end_in h hr1 hr2
  obtain ⟨f, hf⟩ : ∃ f, f = fun k : Nat => digAt a E (endF a b E F + k) := ⟨_, rfl⟩
  obtain ⟨g, hg⟩ : ∃ g, g = fun k : Nat => digAt b F (endF a b E F + k) := ⟨_, rfl⟩
  rw [← hf] at hsz wf
  rw [← hg] at hsz wg
  have hf16 : ∀ k, f k < 65536 := fun k => by rw [hf]; exact digAt_lt hda _ _
  have hg16 : ∀ k, g k < 65536 := fun k => by rw [hg]; exact digAt_lt hdb _ _
  generalize hA : endF a b E F = A at *
  generalize hT : endT a b E F = T at *
  obtain ⟨n, hn⟩ : ∃ n : Nat, T = A + n := ⟨(T - A).toNat, by omega⟩
  have hnn : (T - A).toNat = n := by omega
  rw [hnn] at hsz wf wg
  have hn2 : n ≤ 600000 := by omega
  have hat1 : ∀ (k : Nat) w', k < n → Grew w w' → Calls Try.prog 122 #[.agg #[.bool n1, .slice s1' a.length c1', .int .i64 E], .int .i64 (A + k)] w' (fun e w2 => e = .returned (.int .i64 (f k : Nat)) ∧ ∃ o n, w2 = ext w' o n) := fun k w' hk gg => by
    rw [hf]; exact dat_at n1 _ E a (A + k) w' (ha.grew gg) (by omega) (by omega) (by omega)
  have hat2 : ∀ (k : Nat) w', k < n → Grew w w' → Calls Try.prog 122 #[.agg #[.bool n2, .slice s2' b.length c2', .int .i64 F], .int .i64 (A + k)] w' (fun e w2 => e = .returned (.int .i64 (g k : Nat)) ∧ ∃ o n, w2 = ext w' o n) := fun k w' hk gg => by
    rw [hg]; exact dat_at n2 _ F b (A + k) w' (hb.grew gg) (by omega) (by omega) (by omega)
  have hp' : p = sgn n1 * ((ds f n : Rat) * p2 (16 * A)) := by rw [wf]; exact hp
  have hq' : q = sgn n2 * ((ds g n : Rat) * p2 (16 * A)) := by rw [wg]; exact hq
  have hfa : a = [] → (ds f n : Rat) * p2 (16 * A) = 0 := fun h => by rw [wf, h]; simp [dv]
  have hgb : b = [] → (ds g n : Rat) * p2 (16 * A) = 0 := fun h => by rw [wg, h]; simp [dv]
  obtain ⟨r, hr⟩ : ∃ r, Hid (r = p + q) := ⟨_, hid rfl⟩
  rw [← hr.out]
  have hmade : ∀ ng L' l' w', NS w' L' l' → Dg l' → l'.length ≤ n + 1 → dat ng (dv l') (16 * A) = r → Calls Try.prog 120 #[.bool ng, L', .int .i64 A] w' (fun e w2 => ∃ v, e = .returned v ∧ DV w2 v r lo (hi + 1) ∧ (∀ k, dBlock v = some k → L'.ownBlock = some k) ∧ ∃ o n, w2 = ext w' o n) := fun ng L' l' w' b1 b2 b3 b4 => by
    refine (made_any ng L' l' A w' b1 b2 (by omega) (by omega)).mono fun e w2 hh => ?_
    obtain ⟨v, d1, d2, d3, d4⟩ := hh
    refine ⟨v, d1, ?_, d3, d4⟩
    rw [b4] at d2
    by_cases hne : a ≠ [] ∨ b ≠ []
    · have := hin hne
      exact d2.mono (by omega) (by omega)
    · have e1 : a = [] := Decidable.byContradiction fun h => hne (.inl h)
      have e2 : b = [] := Decidable.byContradiction fun h => hne (.inr h)
      have r0 : r = 0 := by rw [hr.out, hp', hq', hfa e1, hgb e2]; grind
      rw [r0] at d2 ⊢
      exact d2.zero
  have hn1 : a = [] → n1 = false := fun h => (he1 h).2
  have hn2' : b = [] → n2 = false := fun h => (he2 h).2
  have hsame : n1 = n2 ∨ a = [] ∨ b = [] → dat (n1 || n2) (ds f n + ds g n) (16 * A) = r := fun h => by
    rw [hr.out, hp', hq']
    unfold dat
    rw [Rat.natCast_add, Rat.add_mul]
    refine sgn_or ?_
    rcases h with h | h | h
    · exact .inl h
    · exact .inr (.inl ⟨hfa h, hn1 h⟩)
    · exact .inr (.inr ⟨hgb h, hn2' h⟩)
  have hdif1 : n1 ≠ n2 → ∀ D, D + ds g n = ds f n → dat n1 D (16 * A) = r := fun h D hD => by
    rw [hr.out, hp', hq', ← hD]
    unfold dat
    rw [Rat.natCast_add]
    have : sgn n2 = - sgn n1 := by cases n1 <;> cases n2 <;> first | exact absurd rfl h | rfl | decide +kernel
    rw [this]; grind
  have hdif2 : n1 ≠ n2 → ∀ D, D + ds f n = ds g n → dat n2 D (16 * A) = r := fun h D hD => by
    rw [hr.out, hp', hq', ← hD]
    unfold dat
    rw [Rat.natCast_add]
    have : sgn n1 = - sgn n2 := by cases n1 <;> cases n2 <;> first | exact absurd rfl h | rfl | decide +kernel
    rw [this]; grind
  have hAb : -200000 ≤ A ∧ A ≤ 200000 := by omega
  clear hf hg hE hF hb hda hdb hA hT hnn hle hp hq hz1 hz2 he1 he2 hr1 hr2 wf wg hin hp' hq' hfa hgb k1 k2 hbd hr ha
  subst hn
  obtain ⟨la, hla'⟩ : ∃ la, la = a.length := ⟨_, rfl⟩
  obtain ⟨lb, hlb'⟩ : ∃ lb, lb = b.length := ⟨_, rfl⟩
  rw [← hla', ← hlb'] at hends hsz ⊢
  rw [← hla'] at hat1
  rw [← hlb'] at hat2
  have hla0 : a = [] → la = 0 := fun h => by rw [hla', h]; rfl
  have hlb0 : b = [] → lb = 0 := fun h => by rw [hlb', h]; rfl
  have hla1 : a ≠ [] → ((la : Int) == 0) = false := fun h => by rw [beq_eq_false_iff_ne, hla']; have := List.length_pos_iff.2 h; omega
  have hlb1 : b ≠ [] → ((lb : Int) == 0) = false := fun h => by rw [beq_eq_false_iff_ne, hlb']; have := List.length_pos_iff.2 h; omega
  clear hla' hlb'
  have hlo' := hid hlo
  have hhi' := hid hhi
  clear hlo hhi
  obtain ⟨Z, hZ⟩ : ∃ Z, Z = szE f g n := ⟨_, rfl⟩
  rw [← hZ] at hsz
  have hZlt : Z < 0 → ds f n ≤ ds g n := fun h => by
    rw [hZ] at h; unfold szE at h
    split at h
    · omega
    · split at h <;> omega
  have hZge : ¬ Z < 0 → ds g n ≤ ds f n := fun h => by
    rw [hZ] at h; unfold szE at h
    split at h
    · omega
    · omega
  clear hZ
  cases n1 <;> cases n2
  · have hS := hsame (.inl rfl)
    clear hsame hdif1 hdif2 hn1 hn2' hla0 hla1 hlb0 hlb1 hZlt hZge
    go_enter Try.func31, Try.ntmps31
    refine seq_stop ?_
    go_wp2
    refine stop_go (fun W hW => ?_)
    have s1 : w.heap.size < W.heap.size := by rw [hW]; simp only [World.size_alloc]; omega
    have b1 : ∀ i, W.cell? ⟨w.heap.size, i, none⟩ = (#[.bool false, .slice s1' la c1', .int .i64 E] : Array Value)[i]? := by intro i; rw [hW]; go_simp
    have f1 : ∀ i, W.frozen? ⟨w.heap.size, i, none⟩ = false := by intro i; rw [hW]; go_simp
    have s2 : w.heap.size + 1 < W.heap.size := by rw [hW]; simp only [World.size_alloc]; omega
    have b2 : ∀ i, W.cell? ⟨w.heap.size + 1, i, none⟩ = (#[.bool false, .slice s2' lb c2', .int .i64 F] : Array Value)[i]? := by intro i; rw [hW]; go_simp
    have f2 : ∀ i, W.frozen? ⟨w.heap.size + 1, i, none⟩ = false := by intro i; rw [hW]; go_simp
    have s3 : w.heap.size + 1 + 1 < W.heap.size := by rw [hW]; simp only [World.size_alloc]; omega
    have b3 : ∀ i, W.cell? ⟨w.heap.size + 1 + 1, i, none⟩ = (#[.bool false, .slice none 0 0, .int .i64 0] : Array Value)[i]? := by intro i; rw [hW]; go_simp
    have f3 : ∀ i, W.frozen? ⟨w.heap.size + 1 + 1, i, none⟩ = false := by intro i; rw [hW]; go_simp
    have g0 : Grew w W := by rw [hW]; exact (((Grew.refl _).alloc _).alloc _).alloc _
    clear hW
    go_wp2_with (first | (go_at_call 121; ((with_reducible refine (hends _ (Grew.trans g0 (by (show Grew _ _; repeat (first | (with_reducible exact Grew.refl _) | (with_reducible assumption) | (with_reducible exact Grew.same_o) | (with_reducible exact Grew.app_o) | (with_reducible refine Grew.ext ?_ _ _) | (with_reducible refine Grew.alloc ?_ _) | ((with_reducible refine Grew.setCell ?_ ?_ _); rotate_left; (focus (dsimp only; first | omega | (simp only [size_ext, World.size_alloc, Array.size_append]; omega)))) | (with_reducible refine Grew.drewN ?_ _) | (with_reducible refine Grew.drew ?_)))))).mono ?_); rintro e w1 ⟨rfl, o1, k1, rfl⟩)) | (go_at_call 123; ((with_reducible refine (hsz _ (Grew.trans g0 (by (show Grew _ _; repeat (first | (with_reducible exact Grew.refl _) | (with_reducible assumption) | (with_reducible exact Grew.same_o) | (with_reducible exact Grew.app_o) | (with_reducible refine Grew.ext ?_ _ _) | (with_reducible refine Grew.alloc ?_ _) | ((with_reducible refine Grew.setCell ?_ ?_ _); rotate_left; (focus (dsimp only; first | omega | (simp only [size_ext, World.size_alloc, Array.size_append]; omega)))) | (with_reducible refine Grew.drewN ?_ _) | (with_reducible refine Grew.drew ?_)))))).mono ?_); rintro e w1 ⟨rfl, o9, k9, rfl⟩)))
    refine name_any (fun V hV => ?_)
    have gV : Grew W V := by rw [← hV]; (show Grew _ _; repeat (first | (with_reducible exact Grew.refl _) | (with_reducible assumption) | (with_reducible exact Grew.same_o) | (with_reducible exact Grew.app_o) | (with_reducible refine Grew.ext ?_ _ _) | (with_reducible refine Grew.alloc ?_ _) | ((with_reducible refine Grew.setCell ?_ ?_ _); rotate_left; (focus (dsimp only; first | omega | (simp only [size_ext, World.size_alloc, Array.size_append]; omega)))) | (with_reducible refine Grew.drewN ?_ _) | (with_reducible refine Grew.drew ?_)))
    have c1 : ∀ i, V.cell? ⟨w.heap.size, i, none⟩ = (#[.bool false, .slice s1' la c1', .int .i64 E] : Array Value)[i]? := fun i => (gV.cell s1).trans (b1 i)
    have c2 : ∀ i, V.cell? ⟨w.heap.size + 1, i, none⟩ = (#[.bool false, .slice s2' lb c2', .int .i64 F] : Array Value)[i]? := fun i => (gV.cell s2).trans (b2 i)
    have c3 : ∀ i, V.cell? ⟨w.heap.size + 1 + 1, i, none⟩ = (#[.bool false, .slice none 0 0, .int .i64 0] : Array Value)[i]? := fun i => (gV.cell s3).trans (b3 i)
    have fz : ∀ i, V.frozen? ⟨w.heap.size + 1 + 1, i, none⟩ = false := fun i => (gV.frozen s3).trans (f3 i)
    have zV := gV.below.size
    have z1 : w.heap.size < V.heap.size := by omega
    have z2 : w.heap.size + 1 < V.heap.size := by omega
    have z3 : w.heap.size + 1 + 1 < V.heap.size := by omega
    have gw : Grew w V := Grew.trans g0 gV
    clear hV gV b1 b2 b3 f1 f2 f3
    go_loopw [7, 8, 10] (fun u c d wx => ∃ (k : Nat) (m : List Nat) (y : Nat), k ≤ n ∧ OwnN wx V.heap.size u m ∧ c = .int .i64 y ∧ d = .int .i64 (A + k) ∧ m.length = k ∧ Dg m ∧ y ≤ 1 ∧ dv m + y * 65536 ^ k = ds f k + ds g k ∧ ∃ o n, wx = ext V o n) (fun _ _ d _ => (A + n - intOf d).toNat)
    case atStart => exact ⟨0, [], 0, Nat.zero_le _, OwnN.nil _ _, rfl, by go_num, rfl, Dg.nil, by omega, by simp [dv, ds], _, _, ext_zero.symm⟩
    case round =>
      obtain ⟨k, m, y, hk, hO, rfl, rfl, hmk, hmD, hy, hmV, o2, m2, rfl⟩ := hrel
      have hml : m.length ≤ 600000 := by omega
      by_cases hkn : k < n
      · have h1 := fun w' p => hat1 k w' hkn (Grew.trans gw p)
        have h2 := fun w' p => hat2 k w' hkn (Grew.trans gw p)
        have hfk := hf16 k
        have hgk := hg16 k
        obtain ⟨S, hS⟩ : ∃ S, S = y + f k + g k := ⟨_, rfl⟩
        have hst := add_step hmk hS hmV
        obtain ⟨X, hX⟩ : ∃ X, X = f k := ⟨_, rfl⟩
        obtain ⟨Y, hY⟩ : ∃ Y, Y = g k := ⟨_, rfl⟩
        rw [← hX] at h1 hfk hS
        rw [← hY] at h2 hgk hS
        obtain ⟨Mo, hMo⟩ : ∃ Mo, Mo = S % 65536 := ⟨_, rfl⟩
        obtain ⟨Di, hDi⟩ : ∃ Di, Di = S / 65536 := ⟨_, rfl⟩
        have m1 : ((y : Int) + X + Y).tmod 65536 = (Mo : Int) := by rw [Int.tmod_eq_emod_of_nonneg (by omega)]; omega
        have m2' : ((y : Int) + X + Y).tdiv 65536 = (Di : Int) := by rw [Int.tdiv_eq_ediv_of_nonneg (by omega)]; omega
        rw [← hMo, ← hDi] at hst
        have w1 : IntKind.i64.wrap ((y : Int) + X) = (y : Int) + X := IntWalk.i64_in _ (by omega)
        have w2 : IntKind.i64.wrap ((y : Int) + X + Y) = (y : Int) + X + Y := IntWalk.i64_in _ (by omega)
        have hDi1 : Di ≤ 1 := by omega
        have hMo1 : Mo < 65536 := by omega
        have HST := hid hst
        have HM := hid hmk
        clear hst hmV hX hY hS hMo hDi hmk
        go_wp2
        refine wp_region_R (Grew V) [] [(0,0), (0,1), (0,2), (0,5), (0,6), (1,3), (0,4), (1,7), (0,8), (0,9)] (by kernel_rfl) (by kernel_rfl) (fun _ _ _ _ h _ => h) (by first | exact ⟨_, _, ext_drew⟩ | exact ⟨_, _, drew_ext0⟩ | (show Grew _ _; repeat (first | (with_reducible exact Grew.refl _) | (with_reducible assumption) | (with_reducible exact Grew.same_o) | (with_reducible exact Grew.app_o) | (with_reducible refine Grew.ext ?_ _ _) | (with_reducible refine Grew.alloc ?_ _) | ((with_reducible refine Grew.setCell ?_ ?_ _); rotate_left; (focus (dsimp only; first | omega | (simp only [size_ext, World.size_alloc, Array.size_append]; omega)))) | (with_reducible refine Grew.drewN ?_ _) | (with_reducible refine Grew.drew ?_)))) ?_
        go_wp2_with (first | ((with_reducible refine wpR_id ?_); first | (refine wpR_take (v := ?_) rfl rfl ?_ ?_; rotate_left; (focus (rintro w' ⟨o', n', rfl⟩; go_simp; try with_reducible rfl)); simp only [Act.put, List.setIfInBounds_toArray, List.set_cons_zero, List.set_cons_succ]) | (refine wpR_pure (v := ?_) rfl rfl ?_ ?_; rotate_left; (focus (intro w'; go_simp; try with_reducible rfl)); simp only [Act.put, List.setIfInBounds_toArray, List.set_cons_zero, List.set_cons_succ]) | (refine wpR_takeG (v := ?_) rfl rfl rfl rfl rfl ?_ ?_; rotate_left; (focus (rintro w' ⟨o', n', rfl⟩; go_simp; try with_reducible rfl)); simp only [Act.put, List.setIfInBounds_toArray, List.set_cons_zero, List.set_cons_succ]) | (refine wpR_skip rfl rfl rfl rfl rfl rfl ?_; simp only [Act.put, List.setIfInBounds_toArray, List.set_cons_zero, List.set_cons_succ]) | (refine wpR_skipU rfl rfl rfl rfl rfl ?_; simp only [Act.put, List.setIfInBounds_toArray, List.set_cons_zero, List.set_cons_succ]) | (refine wpR_do rfl rfl (fun K hK => ?_)) | (refine wpR_doG rfl rfl rfl rfl rfl (fun K hK => ?_)) | (refine wpR_last rfl rfl (fun K hK => ?_)) | (refine wpR_nil ?_)) | ((with_reducible refine wpR_go ?_ ?_); (focus (show Grew _ _; repeat (first | (with_reducible exact Grew.refl _) | (with_reducible assumption) | (with_reducible exact Grew.same_o) | (with_reducible exact Grew.app_o) | (with_reducible refine Grew.ext ?_ _ _) | (with_reducible refine Grew.alloc ?_ _) | ((with_reducible refine Grew.setCell ?_ ?_ _); rotate_left; (focus (dsimp only; first | omega | (simp only [size_ext, World.size_alloc, Array.size_append]; omega)))) | (with_reducible refine Grew.drewN ?_ _) | (with_reducible refine Grew.drew ?_))))) | ((with_reducible refine upon_id ?_); refine upon_fop rfl (by assumption) (by assumption) ?_; intro rr nn hr) | (go_at_call 122; ((with_reducible refine (h1 _ (by (show Grew _ _; repeat (first | (with_reducible exact Grew.refl _) | (with_reducible assumption) | (with_reducible exact Grew.same_o) | (with_reducible exact Grew.app_o) | (with_reducible refine Grew.ext ?_ _ _) | (with_reducible refine Grew.alloc ?_ _) | ((with_reducible refine Grew.setCell ?_ ?_ _); rotate_left; (focus (dsimp only; first | omega | (simp only [size_ext, World.size_alloc, Array.size_append]; omega)))) | (with_reducible refine Grew.drewN ?_ _) | (with_reducible refine Grew.drew ?_))))).mono ?_); rintro e w1 ⟨rfl, oc, kc, rfl⟩)) | (go_at_call 122; ((with_reducible refine (h2 _ (by (show Grew _ _; repeat (first | (with_reducible exact Grew.refl _) | (with_reducible assumption) | (with_reducible exact Grew.same_o) | (with_reducible exact Grew.app_o) | (with_reducible refine Grew.ext ?_ _ _) | (with_reducible refine Grew.alloc ?_ _) | ((with_reducible refine Grew.setCell ?_ ?_ _); rotate_left; (focus (dsimp only; first | omega | (simp only [size_ext, World.size_alloc, Array.size_append]; omega)))) | (with_reducible refine Grew.drewN ?_ _) | (with_reducible refine Grew.drew ?_))))).mono ?_); rintro e w1 ⟨rfl, od, kd, rfl⟩)) | (at_builtin; refine append1_n iundN iinfoN rfl (W := V) (l := m) (d := Mo) ⟨_, _, rfl⟩ ?_ ?_ (by omega) _ _ rfl rfl rfl ?_ rfl ?_; (focus (first | exact hO | exact hO.grew (by (show Grew _ _; repeat (first | (with_reducible exact Grew.refl _) | (with_reducible assumption) | (with_reducible exact Grew.same_o) | (with_reducible exact Grew.app_o) | (with_reducible refine Grew.ext ?_ _ _) | (with_reducible refine Grew.alloc ?_ _) | ((with_reducible refine Grew.setCell ?_ ?_ _); rotate_left; (focus (dsimp only; first | omega | (simp only [size_ext, World.size_alloc, Array.size_append]; omega)))) | (with_reducible refine Grew.drewN ?_ _) | (with_reducible refine Grew.drew ?_)))))); (focus (first | rfl | omega)); (focus (first | rfl | (simp only [size_ext, World.size_alloc, Array.size_append]; done) | (simp only [size_ext, World.size_alloc, Array.size_append]; omega))); intro va oa na hoa))
        go_roundw
        case rel => exact ⟨k + 1, m ++ [Mo], Di, hkn, hoa, rfl, by go_num, by simp; exact HM.out, hmD.append (Dg.one hMo1), hDi1, HST.out, _, _, rfl⟩
        case measure => simp [intOf]; omega
      · have e : k = n := by omega
        subst e
        have hfin : dv (m ++ [y]) = ds f k + ds g k := by rw [dv_snoc, hmk]; exact hmV
        have hDf : Dg (m ++ [y]) := hmD.append (Dg.one (by omega))
        have hlf : (m ++ [y]).length ≤ k + 1 := by simp; omega
        have HS2 := hid (show dat false (dv (m ++ [y])) (16 * A) = r by rw [hfin]; exact hS)
        clear hfin hmV hmk
        go_wp2_with (first | (at_builtin; refine append1_n iundN iinfoN rfl (W := V) (l := m) (d := y) ⟨_, _, rfl⟩ ?_ ?_ (by omega) _ _ rfl rfl rfl ?_ rfl ?_; (focus (first | exact hO | exact hO.grew (by (show Grew _ _; repeat (first | (with_reducible exact Grew.refl _) | (with_reducible assumption) | (with_reducible exact Grew.same_o) | (with_reducible exact Grew.app_o) | (with_reducible refine Grew.ext ?_ _ _) | (with_reducible refine Grew.alloc ?_ _) | ((with_reducible refine Grew.setCell ?_ ?_ _); rotate_left; (focus (dsimp only; first | omega | (simp only [size_ext, World.size_alloc, Array.size_append]; omega)))) | (with_reducible refine Grew.drewN ?_ _) | (with_reducible refine Grew.drew ?_)))))); (focus (first | rfl | omega)); (focus (first | rfl | (simp only [size_ext, World.size_alloc, Array.size_append]; done) | (simp only [size_ext, World.size_alloc, Array.size_append]; omega))); intro va oa na hoa) | (go_at_call 120; ((with_reducible refine (hmade _ _ (m ++ [y]) _ hoa.ns hDf hlf HS2.out).mono ?_); rintro e w1 ⟨v, rfl, hv, hbk, oz, nz, rfl⟩; obtain ⟨vn, va', vl, vc, vE, rfl⟩ := hv.shape)))
        ((have hbk2 : ∀ k, dBlock (.agg #[.bool vn, .slice va' vl vc, .int .i64 vE]) = some k → V.heap.size ≤ k := fun k hk => hoa.block k (hbk k hk)); rw [ext_ext] at hv; refine bodyPost_ret (by simp [results, Try.results31, go_sem, *]; rfl) rfl ?_; exact ⟨_, rfl, hv.ext_set3 z3 (fun k hk => by have := hbk2 k hk; omega) _ _ _, fun k hk => by have := hbk2 k hk; have := gw.below.size; omega, grew_set3 gw (by omega) _ _ _ _ _⟩)
  · have h2n : b ≠ [] := fun h => by have := hn2' h; cases this
    have e2 := hlb1 h2n
    by_cases h1n : a = []
    · have hS := hsame (.inr (.inl h1n))
      have := hla0 h1n
      subst this
      clear hsame hdif1 hdif2 hn1 hn2' hla0 hla1 hlb0 hlb1 hZlt hZge
      go_enter Try.func31, Try.ntmps31
      refine seq_stop ?_
      go_wp2
      refine stop_go (fun W hW => ?_)
      have s1 : w.heap.size < W.heap.size := by rw [hW]; simp only [World.size_alloc]; omega
      have b1 : ∀ i, W.cell? ⟨w.heap.size, i, none⟩ = (#[.bool false, .slice s1' 0 c1', .int .i64 E] : Array Value)[i]? := by intro i; rw [hW]; go_simp
      have f1 : ∀ i, W.frozen? ⟨w.heap.size, i, none⟩ = false := by intro i; rw [hW]; go_simp
      have s2 : w.heap.size + 1 < W.heap.size := by rw [hW]; simp only [World.size_alloc]; omega
      have b2 : ∀ i, W.cell? ⟨w.heap.size + 1, i, none⟩ = (#[.bool true, .slice s2' lb c2', .int .i64 F] : Array Value)[i]? := by intro i; rw [hW]; go_simp
      have f2 : ∀ i, W.frozen? ⟨w.heap.size + 1, i, none⟩ = false := by intro i; rw [hW]; go_simp
      have s3 : w.heap.size + 1 + 1 < W.heap.size := by rw [hW]; simp only [World.size_alloc]; omega
      have b3 : ∀ i, W.cell? ⟨w.heap.size + 1 + 1, i, none⟩ = (#[.bool false, .slice none 0 0, .int .i64 0] : Array Value)[i]? := by intro i; rw [hW]; go_simp
      have f3 : ∀ i, W.frozen? ⟨w.heap.size + 1 + 1, i, none⟩ = false := by intro i; rw [hW]; go_simp
      have g0 : Grew w W := by rw [hW]; exact (((Grew.refl _).alloc _).alloc _).alloc _
      clear hW
      go_wp2_with (first | (go_at_call 121; ((with_reducible refine (hends _ (Grew.trans g0 (by (show Grew _ _; repeat (first | (with_reducible exact Grew.refl _) | (with_reducible assumption) | (with_reducible exact Grew.same_o) | (with_reducible exact Grew.app_o) | (with_reducible refine Grew.ext ?_ _ _) | (with_reducible refine Grew.alloc ?_ _) | ((with_reducible refine Grew.setCell ?_ ?_ _); rotate_left; (focus (dsimp only; first | omega | (simp only [size_ext, World.size_alloc, Array.size_append]; omega)))) | (with_reducible refine Grew.drewN ?_ _) | (with_reducible refine Grew.drew ?_)))))).mono ?_); rintro e w1 ⟨rfl, o1, k1, rfl⟩)) | (go_at_call 123; ((with_reducible refine (hsz _ (Grew.trans g0 (by (show Grew _ _; repeat (first | (with_reducible exact Grew.refl _) | (with_reducible assumption) | (with_reducible exact Grew.same_o) | (with_reducible exact Grew.app_o) | (with_reducible refine Grew.ext ?_ _ _) | (with_reducible refine Grew.alloc ?_ _) | ((with_reducible refine Grew.setCell ?_ ?_ _); rotate_left; (focus (dsimp only; first | omega | (simp only [size_ext, World.size_alloc, Array.size_append]; omega)))) | (with_reducible refine Grew.drewN ?_ _) | (with_reducible refine Grew.drew ?_)))))).mono ?_); rintro e w1 ⟨rfl, o9, k9, rfl⟩)))
      refine name_any (fun V hV => ?_)
      have gV : Grew W V := by rw [← hV]; (show Grew _ _; repeat (first | (with_reducible exact Grew.refl _) | (with_reducible assumption) | (with_reducible exact Grew.same_o) | (with_reducible exact Grew.app_o) | (with_reducible refine Grew.ext ?_ _ _) | (with_reducible refine Grew.alloc ?_ _) | ((with_reducible refine Grew.setCell ?_ ?_ _); rotate_left; (focus (dsimp only; first | omega | (simp only [size_ext, World.size_alloc, Array.size_append]; omega)))) | (with_reducible refine Grew.drewN ?_ _) | (with_reducible refine Grew.drew ?_)))
      have c1 : ∀ i, V.cell? ⟨w.heap.size, i, none⟩ = (#[.bool false, .slice s1' 0 c1', .int .i64 E] : Array Value)[i]? := fun i => (gV.cell s1).trans (b1 i)
      have c2 : ∀ i, V.cell? ⟨w.heap.size + 1, i, none⟩ = (#[.bool true, .slice s2' lb c2', .int .i64 F] : Array Value)[i]? := fun i => (gV.cell s2).trans (b2 i)
      have c3 : ∀ i, V.cell? ⟨w.heap.size + 1 + 1, i, none⟩ = (#[.bool false, .slice none 0 0, .int .i64 0] : Array Value)[i]? := fun i => (gV.cell s3).trans (b3 i)
      have fz : ∀ i, V.frozen? ⟨w.heap.size + 1 + 1, i, none⟩ = false := fun i => (gV.frozen s3).trans (f3 i)
      have zV := gV.below.size
      have z1 : w.heap.size < V.heap.size := by omega
      have z2 : w.heap.size + 1 < V.heap.size := by omega
      have z3 : w.heap.size + 1 + 1 < V.heap.size := by omega
      have gw : Grew w V := Grew.trans g0 gV
      clear hV gV b1 b2 b3 f1 f2 f3
      go_loopw [7, 8, 10] (fun u c d wx => ∃ (k : Nat) (m : List Nat) (y : Nat), k ≤ n ∧ OwnN wx V.heap.size u m ∧ c = .int .i64 y ∧ d = .int .i64 (A + k) ∧ m.length = k ∧ Dg m ∧ y ≤ 1 ∧ dv m + y * 65536 ^ k = ds f k + ds g k ∧ ∃ o n, wx = ext V o n) (fun _ _ d _ => (A + n - intOf d).toNat)
      case atStart => exact ⟨0, [], 0, Nat.zero_le _, OwnN.nil _ _, rfl, by go_num, rfl, Dg.nil, by omega, by simp [dv, ds], _, _, ext_zero.symm⟩
      case round =>
        obtain ⟨k, m, y, hk, hO, rfl, rfl, hmk, hmD, hy, hmV, o2, m2, rfl⟩ := hrel
        have hml : m.length ≤ 600000 := by omega
        by_cases hkn : k < n
        · have h1 := fun w' p => hat1 k w' hkn (Grew.trans gw p)
          have h2 := fun w' p => hat2 k w' hkn (Grew.trans gw p)
          have hfk := hf16 k
          have hgk := hg16 k
          obtain ⟨S, hS⟩ : ∃ S, S = y + f k + g k := ⟨_, rfl⟩
          have hst := add_step hmk hS hmV
          obtain ⟨X, hX⟩ : ∃ X, X = f k := ⟨_, rfl⟩
          obtain ⟨Y, hY⟩ : ∃ Y, Y = g k := ⟨_, rfl⟩
          rw [← hX] at h1 hfk hS
          rw [← hY] at h2 hgk hS
          obtain ⟨Mo, hMo⟩ : ∃ Mo, Mo = S % 65536 := ⟨_, rfl⟩
          obtain ⟨Di, hDi⟩ : ∃ Di, Di = S / 65536 := ⟨_, rfl⟩
          have m1 : ((y : Int) + X + Y).tmod 65536 = (Mo : Int) := by rw [Int.tmod_eq_emod_of_nonneg (by omega)]; omega
          have m2' : ((y : Int) + X + Y).tdiv 65536 = (Di : Int) := by rw [Int.tdiv_eq_ediv_of_nonneg (by omega)]; omega
          rw [← hMo, ← hDi] at hst
          have w1 : IntKind.i64.wrap ((y : Int) + X) = (y : Int) + X := IntWalk.i64_in _ (by omega)
          have w2 : IntKind.i64.wrap ((y : Int) + X + Y) = (y : Int) + X + Y := IntWalk.i64_in _ (by omega)
          have hDi1 : Di ≤ 1 := by omega
          have hMo1 : Mo < 65536 := by omega
          have HST := hid hst
          have HM := hid hmk
          clear hst hmV hX hY hS hMo hDi hmk
          go_wp2
          refine wp_region_R (Grew V) [] [(0,0), (0,1), (0,2), (0,5), (0,6), (1,3), (0,4), (1,7), (0,8), (0,9)] (by kernel_rfl) (by kernel_rfl) (fun _ _ _ _ h _ => h) (by first | exact ⟨_, _, ext_drew⟩ | exact ⟨_, _, drew_ext0⟩ | (show Grew _ _; repeat (first | (with_reducible exact Grew.refl _) | (with_reducible assumption) | (with_reducible exact Grew.same_o) | (with_reducible exact Grew.app_o) | (with_reducible refine Grew.ext ?_ _ _) | (with_reducible refine Grew.alloc ?_ _) | ((with_reducible refine Grew.setCell ?_ ?_ _); rotate_left; (focus (dsimp only; first | omega | (simp only [size_ext, World.size_alloc, Array.size_append]; omega)))) | (with_reducible refine Grew.drewN ?_ _) | (with_reducible refine Grew.drew ?_)))) ?_
          go_wp2_with (first | ((with_reducible refine wpR_id ?_); first | (refine wpR_take (v := ?_) rfl rfl ?_ ?_; rotate_left; (focus (rintro w' ⟨o', n', rfl⟩; go_simp; try with_reducible rfl)); simp only [Act.put, List.setIfInBounds_toArray, List.set_cons_zero, List.set_cons_succ]) | (refine wpR_pure (v := ?_) rfl rfl ?_ ?_; rotate_left; (focus (intro w'; go_simp; try with_reducible rfl)); simp only [Act.put, List.setIfInBounds_toArray, List.set_cons_zero, List.set_cons_succ]) | (refine wpR_takeG (v := ?_) rfl rfl rfl rfl rfl ?_ ?_; rotate_left; (focus (rintro w' ⟨o', n', rfl⟩; go_simp; try with_reducible rfl)); simp only [Act.put, List.setIfInBounds_toArray, List.set_cons_zero, List.set_cons_succ]) | (refine wpR_skip rfl rfl rfl rfl rfl rfl ?_; simp only [Act.put, List.setIfInBounds_toArray, List.set_cons_zero, List.set_cons_succ]) | (refine wpR_skipU rfl rfl rfl rfl rfl ?_; simp only [Act.put, List.setIfInBounds_toArray, List.set_cons_zero, List.set_cons_succ]) | (refine wpR_do rfl rfl (fun K hK => ?_)) | (refine wpR_doG rfl rfl rfl rfl rfl (fun K hK => ?_)) | (refine wpR_last rfl rfl (fun K hK => ?_)) | (refine wpR_nil ?_)) | ((with_reducible refine wpR_go ?_ ?_); (focus (show Grew _ _; repeat (first | (with_reducible exact Grew.refl _) | (with_reducible assumption) | (with_reducible exact Grew.same_o) | (with_reducible exact Grew.app_o) | (with_reducible refine Grew.ext ?_ _ _) | (with_reducible refine Grew.alloc ?_ _) | ((with_reducible refine Grew.setCell ?_ ?_ _); rotate_left; (focus (dsimp only; first | omega | (simp only [size_ext, World.size_alloc, Array.size_append]; omega)))) | (with_reducible refine Grew.drewN ?_ _) | (with_reducible refine Grew.drew ?_))))) | ((with_reducible refine upon_id ?_); refine upon_fop rfl (by assumption) (by assumption) ?_; intro rr nn hr) | (go_at_call 122; ((with_reducible refine (h1 _ (by (show Grew _ _; repeat (first | (with_reducible exact Grew.refl _) | (with_reducible assumption) | (with_reducible exact Grew.same_o) | (with_reducible exact Grew.app_o) | (with_reducible refine Grew.ext ?_ _ _) | (with_reducible refine Grew.alloc ?_ _) | ((with_reducible refine Grew.setCell ?_ ?_ _); rotate_left; (focus (dsimp only; first | omega | (simp only [size_ext, World.size_alloc, Array.size_append]; omega)))) | (with_reducible refine Grew.drewN ?_ _) | (with_reducible refine Grew.drew ?_))))).mono ?_); rintro e w1 ⟨rfl, oc, kc, rfl⟩)) | (go_at_call 122; ((with_reducible refine (h2 _ (by (show Grew _ _; repeat (first | (with_reducible exact Grew.refl _) | (with_reducible assumption) | (with_reducible exact Grew.same_o) | (with_reducible exact Grew.app_o) | (with_reducible refine Grew.ext ?_ _ _) | (with_reducible refine Grew.alloc ?_ _) | ((with_reducible refine Grew.setCell ?_ ?_ _); rotate_left; (focus (dsimp only; first | omega | (simp only [size_ext, World.size_alloc, Array.size_append]; omega)))) | (with_reducible refine Grew.drewN ?_ _) | (with_reducible refine Grew.drew ?_))))).mono ?_); rintro e w1 ⟨rfl, od, kd, rfl⟩)) | (at_builtin; refine append1_n iundN iinfoN rfl (W := V) (l := m) (d := Mo) ⟨_, _, rfl⟩ ?_ ?_ (by omega) _ _ rfl rfl rfl ?_ rfl ?_; (focus (first | exact hO | exact hO.grew (by (show Grew _ _; repeat (first | (with_reducible exact Grew.refl _) | (with_reducible assumption) | (with_reducible exact Grew.same_o) | (with_reducible exact Grew.app_o) | (with_reducible refine Grew.ext ?_ _ _) | (with_reducible refine Grew.alloc ?_ _) | ((with_reducible refine Grew.setCell ?_ ?_ _); rotate_left; (focus (dsimp only; first | omega | (simp only [size_ext, World.size_alloc, Array.size_append]; omega)))) | (with_reducible refine Grew.drewN ?_ _) | (with_reducible refine Grew.drew ?_)))))); (focus (first | rfl | omega)); (focus (first | rfl | (simp only [size_ext, World.size_alloc, Array.size_append]; done) | (simp only [size_ext, World.size_alloc, Array.size_append]; omega))); intro va oa na hoa))
          go_roundw
          case rel => exact ⟨k + 1, m ++ [Mo], Di, hkn, hoa, rfl, by go_num, by simp; exact HM.out, hmD.append (Dg.one hMo1), hDi1, HST.out, _, _, rfl⟩
          case measure => simp [intOf]; omega
        · have e : k = n := by omega
          subst e
          have hfin : dv (m ++ [y]) = ds f k + ds g k := by rw [dv_snoc, hmk]; exact hmV
          have hDf : Dg (m ++ [y]) := hmD.append (Dg.one (by omega))
          have hlf : (m ++ [y]).length ≤ k + 1 := by simp; omega
          have HS2 := hid (show dat true (dv (m ++ [y])) (16 * A) = r by rw [hfin]; exact hS)
          clear hfin hmV hmk
          go_wp2_with (first | (at_builtin; refine append1_n iundN iinfoN rfl (W := V) (l := m) (d := y) ⟨_, _, rfl⟩ ?_ ?_ (by omega) _ _ rfl rfl rfl ?_ rfl ?_; (focus (first | exact hO | exact hO.grew (by (show Grew _ _; repeat (first | (with_reducible exact Grew.refl _) | (with_reducible assumption) | (with_reducible exact Grew.same_o) | (with_reducible exact Grew.app_o) | (with_reducible refine Grew.ext ?_ _ _) | (with_reducible refine Grew.alloc ?_ _) | ((with_reducible refine Grew.setCell ?_ ?_ _); rotate_left; (focus (dsimp only; first | omega | (simp only [size_ext, World.size_alloc, Array.size_append]; omega)))) | (with_reducible refine Grew.drewN ?_ _) | (with_reducible refine Grew.drew ?_)))))); (focus (first | rfl | omega)); (focus (first | rfl | (simp only [size_ext, World.size_alloc, Array.size_append]; done) | (simp only [size_ext, World.size_alloc, Array.size_append]; omega))); intro va oa na hoa) | (go_at_call 120; ((with_reducible refine (hmade _ _ (m ++ [y]) _ hoa.ns hDf hlf HS2.out).mono ?_); rintro e w1 ⟨v, rfl, hv, hbk, oz, nz, rfl⟩; obtain ⟨vn, va', vl, vc, vE, rfl⟩ := hv.shape)))
          ((have hbk2 : ∀ k, dBlock (.agg #[.bool vn, .slice va' vl vc, .int .i64 vE]) = some k → V.heap.size ≤ k := fun k hk => hoa.block k (hbk k hk)); rw [ext_ext] at hv; refine bodyPost_ret (by simp [results, Try.results31, go_sem, *]; rfl) rfl ?_; exact ⟨_, rfl, hv.ext_set3 z3 (fun k hk => by have := hbk2 k hk; omega) _ _ _, fun k hk => by have := hbk2 k hk; have := gw.below.size; omega, grew_set3 gw (by omega) _ _ _ _ _⟩)
    · have e1 := hla1 h1n
      have hD1 := hid (hdif1 (by decide))
      have hD2 := hid (hdif2 (by decide))
      by_cases hz : Z < 0
      · have d8 : decide (Z < 0) = true := by simpa using hz
        have hle := hZlt hz
        clear hsame hdif1 hdif2 hn1 hn2' hla0 hla1 hlb0 hlb1 hZlt hZge
        go_enter Try.func31, Try.ntmps31
        refine seq_stop ?_
        go_wp2
        refine stop_go (fun W hW => ?_)
        have s1 : w.heap.size < W.heap.size := by rw [hW]; simp only [World.size_alloc]; omega
        have b1 : ∀ i, W.cell? ⟨w.heap.size, i, none⟩ = (#[.bool false, .slice s1' la c1', .int .i64 E] : Array Value)[i]? := by intro i; rw [hW]; go_simp
        have f1 : ∀ i, W.frozen? ⟨w.heap.size, i, none⟩ = false := by intro i; rw [hW]; go_simp
        have s2 : w.heap.size + 1 < W.heap.size := by rw [hW]; simp only [World.size_alloc]; omega
        have b2 : ∀ i, W.cell? ⟨w.heap.size + 1, i, none⟩ = (#[.bool true, .slice s2' lb c2', .int .i64 F] : Array Value)[i]? := by intro i; rw [hW]; go_simp
        have f2 : ∀ i, W.frozen? ⟨w.heap.size + 1, i, none⟩ = false := by intro i; rw [hW]; go_simp
        have s3 : w.heap.size + 1 + 1 < W.heap.size := by rw [hW]; simp only [World.size_alloc]; omega
        have b3 : ∀ i, W.cell? ⟨w.heap.size + 1 + 1, i, none⟩ = (#[.bool false, .slice none 0 0, .int .i64 0] : Array Value)[i]? := by intro i; rw [hW]; go_simp
        have f3 : ∀ i, W.frozen? ⟨w.heap.size + 1 + 1, i, none⟩ = false := by intro i; rw [hW]; go_simp
        have g0 : Grew w W := by rw [hW]; exact (((Grew.refl _).alloc _).alloc _).alloc _
        clear hW
        go_wp2_with (first | (go_at_call 121; ((with_reducible refine (hends _ (Grew.trans g0 (by (show Grew _ _; repeat (first | (with_reducible exact Grew.refl _) | (with_reducible assumption) | (with_reducible exact Grew.same_o) | (with_reducible exact Grew.app_o) | (with_reducible refine Grew.ext ?_ _ _) | (with_reducible refine Grew.alloc ?_ _) | ((with_reducible refine Grew.setCell ?_ ?_ _); rotate_left; (focus (dsimp only; first | omega | (simp only [size_ext, World.size_alloc, Array.size_append]; omega)))) | (with_reducible refine Grew.drewN ?_ _) | (with_reducible refine Grew.drew ?_)))))).mono ?_); rintro e w1 ⟨rfl, o1, k1, rfl⟩)) | (go_at_call 123; ((with_reducible refine (hsz _ (Grew.trans g0 (by (show Grew _ _; repeat (first | (with_reducible exact Grew.refl _) | (with_reducible assumption) | (with_reducible exact Grew.same_o) | (with_reducible exact Grew.app_o) | (with_reducible refine Grew.ext ?_ _ _) | (with_reducible refine Grew.alloc ?_ _) | ((with_reducible refine Grew.setCell ?_ ?_ _); rotate_left; (focus (dsimp only; first | omega | (simp only [size_ext, World.size_alloc, Array.size_append]; omega)))) | (with_reducible refine Grew.drewN ?_ _) | (with_reducible refine Grew.drew ?_)))))).mono ?_); rintro e w1 ⟨rfl, o9, k9, rfl⟩)))
        refine name_any (fun V hV => ?_)
        have gw : Grew w V := by rw [← hV]; (show Grew _ _; repeat (first | (with_reducible exact Grew.refl _) | (with_reducible assumption) | (with_reducible exact Grew.same_o) | (with_reducible exact Grew.app_o) | (with_reducible refine Grew.ext ?_ _ _) | (with_reducible refine Grew.alloc ?_ _) | ((with_reducible refine Grew.setCell ?_ ?_ _); rotate_left; (focus (dsimp only; first | omega | (simp only [size_ext, World.size_alloc, Array.size_append]; omega)))) | (with_reducible refine Grew.drewN ?_ _) | (with_reducible refine Grew.drew ?_)))
        have c10 : V.cell? ⟨w.heap.size, 0, none⟩ = some (.bool true) := by subst hV; go_simp
        have c11 : V.cell? ⟨w.heap.size, 1, none⟩ = some (.slice s2' lb c2') := by subst hV; go_simp
        have c12 : V.cell? ⟨w.heap.size, 2, none⟩ = some (.int .i64 F) := by subst hV; go_simp
        have c20 : V.cell? ⟨w.heap.size + 1, 0, none⟩ = some (.bool false) := by subst hV; go_simp
        have c21 : V.cell? ⟨w.heap.size + 1, 1, none⟩ = some (.slice s1' la c1') := by subst hV; go_simp
        have c22 : V.cell? ⟨w.heap.size + 1, 2, none⟩ = some (.int .i64 E) := by subst hV; go_simp
        have c3 : ∀ i, V.cell? ⟨w.heap.size + 1 + 1, i, none⟩ = (#[.bool false, .slice none 0 0, .int .i64 0] : Array Value)[i]? := by subst hV; intro i; go_simp
        have fz : ∀ i, V.frozen? ⟨w.heap.size + 1 + 1, i, none⟩ = false := by subst hV; intro i; go_simp
        have zV : W.heap.size ≤ V.heap.size := by subst hV; simp only [size_ext, size_setCell']; omega
        have z1 : w.heap.size < V.heap.size := by omega
        have z2 : w.heap.size + 1 < V.heap.size := by omega
        have z3 : w.heap.size + 1 + 1 < V.heap.size := by omega
        clear hV b1 b2 b3 f1 f2 f3
        go_loopw [7, 8, 11] (fun u c d wx => ∃ (k : Nat) (m : List Nat) (y : Nat), k ≤ n ∧ OwnN wx V.heap.size u m ∧ c = .int .i64 y ∧ d = .int .i64 (A + k) ∧ m.length = k ∧ Dg m ∧ y ≤ 1 ∧ dv m + ds f k = ds g k + y * 65536 ^ k ∧ ∃ o n, wx = ext V o n) (fun _ _ d _ => (A + n - intOf d).toNat)
        case atStart => exact ⟨0, [], 0, Nat.zero_le _, OwnN.nil _ _, rfl, by go_num, rfl, Dg.nil, by omega, by simp [dv, ds], _, _, ext_zero.symm⟩
        case round =>
          obtain ⟨k, m, y, hk, hO, rfl, rfl, hmk, hmD, hy, hmV, o2, m2, rfl⟩ := hrel
          have hml : m.length ≤ 600000 := by omega
          by_cases hkn : k < n
          · have h1 := fun w' p => hat2 k w' hkn (Grew.trans gw p)
            have h2 := fun w' p => hat1 k w' hkn (Grew.trans gw p)
            have hfk := hg16 k
            have hgk := hf16 k
            have hst0 := hid (sub_step0 hmk hmV)
            have hst1 := hid (fun hlt => sub_step1 hmk hmV hlt hgk hy)
            obtain ⟨X, hX⟩ : ∃ X, X = g k := ⟨_, rfl⟩
            obtain ⟨Y, hY⟩ : ∃ Y, Y = f k := ⟨_, rfl⟩
            rw [← hX] at h1 hfk hst0 hst1
            rw [← hY] at h2 hgk hst0 hst1
            have w1 : IntKind.i64.wrap ((X : Int) - Y) = (X : Int) - Y := IntWalk.i64_in _ (by omega)
            have w2 : IntKind.i64.wrap ((X : Int) - Y - y) = (X : Int) - Y - y := IntWalk.i64_in _ (by omega)
            have HM := hid hmk
            clear hmV hX hY hmk
            by_cases hlt : X < Y + y
            · have d9 : decide ((X : Int) - Y - y < 0) = true := by simp; omega
              have w3 : IntKind.i64.wrap ((X : Int) - Y - y + 65536) = ((X + 65536 - Y - y : Nat) : Int) := by rw [IntWalk.i64_in _ (by omega)]; omega
              have hst := hst1.out hlt
              obtain ⟨Z, hZ⟩ : ∃ Z, Z = X + 65536 - Y - y := ⟨_, rfl⟩
              rw [← hZ] at w3 hst
              have hZ1 : Z < 65536 := by omega
              have HST := hid hst
              clear hst hZ hst0 hst1
              go_wp2
              refine wp_region_R (Grew V) [] [(0,0), (0,1), (0,3), (0,4), (0,7), (1,2), (1,5), (0,6), (0,8), (0,9)] (by kernel_rfl) (by kernel_rfl) (fun _ _ _ _ h _ => h) (by first | exact ⟨_, _, ext_drew⟩ | exact ⟨_, _, drew_ext0⟩ | (show Grew _ _; repeat (first | (with_reducible exact Grew.refl _) | (with_reducible assumption) | (with_reducible exact Grew.same_o) | (with_reducible exact Grew.app_o) | (with_reducible refine Grew.ext ?_ _ _) | (with_reducible refine Grew.alloc ?_ _) | ((with_reducible refine Grew.setCell ?_ ?_ _); rotate_left; (focus (dsimp only; first | omega | (simp only [size_ext, World.size_alloc, Array.size_append]; omega)))) | (with_reducible refine Grew.drewN ?_ _) | (with_reducible refine Grew.drew ?_)))) ?_
              go_wp2_with (first | ((with_reducible refine wpR_id ?_); first | (refine wpR_take (v := ?_) rfl rfl ?_ ?_; rotate_left; (focus (rintro w' ⟨o', n', rfl⟩; go_simp; try with_reducible rfl)); simp only [Act.put, List.setIfInBounds_toArray, List.set_cons_zero, List.set_cons_succ]) | (refine wpR_pure (v := ?_) rfl rfl ?_ ?_; rotate_left; (focus (intro w'; go_simp; try with_reducible rfl)); simp only [Act.put, List.setIfInBounds_toArray, List.set_cons_zero, List.set_cons_succ]) | (refine wpR_takeG (v := ?_) rfl rfl rfl rfl rfl ?_ ?_; rotate_left; (focus (rintro w' ⟨o', n', rfl⟩; go_simp; try with_reducible rfl)); simp only [Act.put, List.setIfInBounds_toArray, List.set_cons_zero, List.set_cons_succ]) | (refine wpR_skip rfl rfl rfl rfl rfl rfl ?_; simp only [Act.put, List.setIfInBounds_toArray, List.set_cons_zero, List.set_cons_succ]) | (refine wpR_skipU rfl rfl rfl rfl rfl ?_; simp only [Act.put, List.setIfInBounds_toArray, List.set_cons_zero, List.set_cons_succ]) | (refine wpR_do rfl rfl (fun K hK => ?_)) | (refine wpR_doG rfl rfl rfl rfl rfl (fun K hK => ?_)) | (refine wpR_last rfl rfl (fun K hK => ?_)) | (refine wpR_nil ?_)) | ((with_reducible refine wpR_go ?_ ?_); (focus (show Grew _ _; repeat (first | (with_reducible exact Grew.refl _) | (with_reducible assumption) | (with_reducible exact Grew.same_o) | (with_reducible exact Grew.app_o) | (with_reducible refine Grew.ext ?_ _ _) | (with_reducible refine Grew.alloc ?_ _) | ((with_reducible refine Grew.setCell ?_ ?_ _); rotate_left; (focus (dsimp only; first | omega | (simp only [size_ext, World.size_alloc, Array.size_append]; omega)))) | (with_reducible refine Grew.drewN ?_ _) | (with_reducible refine Grew.drew ?_))))) | ((with_reducible refine upon_id ?_); refine upon_fop rfl (by assumption) (by assumption) ?_; intro rr nn hr) | (go_at_call 122; ((with_reducible refine (h1 _ (by (show Grew _ _; repeat (first | (with_reducible exact Grew.refl _) | (with_reducible assumption) | (with_reducible exact Grew.same_o) | (with_reducible exact Grew.app_o) | (with_reducible refine Grew.ext ?_ _ _) | (with_reducible refine Grew.alloc ?_ _) | ((with_reducible refine Grew.setCell ?_ ?_ _); rotate_left; (focus (dsimp only; first | omega | (simp only [size_ext, World.size_alloc, Array.size_append]; omega)))) | (with_reducible refine Grew.drewN ?_ _) | (with_reducible refine Grew.drew ?_))))).mono ?_); rintro e w1 ⟨rfl, oc, kc, rfl⟩)) | (go_at_call 122; ((with_reducible refine (h2 _ (by (show Grew _ _; repeat (first | (with_reducible exact Grew.refl _) | (with_reducible assumption) | (with_reducible exact Grew.same_o) | (with_reducible exact Grew.app_o) | (with_reducible refine Grew.ext ?_ _ _) | (with_reducible refine Grew.alloc ?_ _) | ((with_reducible refine Grew.setCell ?_ ?_ _); rotate_left; (focus (dsimp only; first | omega | (simp only [size_ext, World.size_alloc, Array.size_append]; omega)))) | (with_reducible refine Grew.drewN ?_ _) | (with_reducible refine Grew.drew ?_))))).mono ?_); rintro e w1 ⟨rfl, od, kd, rfl⟩)) | (at_builtin; refine append1_n iundN iinfoN rfl (W := V) (l := m) (d := Z) ⟨_, _, rfl⟩ ?_ ?_ (by omega) _ _ rfl rfl rfl ?_ rfl ?_; (focus (first | exact hO | exact hO.grew (by (show Grew _ _; repeat (first | (with_reducible exact Grew.refl _) | (with_reducible assumption) | (with_reducible exact Grew.same_o) | (with_reducible exact Grew.app_o) | (with_reducible refine Grew.ext ?_ _ _) | (with_reducible refine Grew.alloc ?_ _) | ((with_reducible refine Grew.setCell ?_ ?_ _); rotate_left; (focus (dsimp only; first | omega | (simp only [size_ext, World.size_alloc, Array.size_append]; omega)))) | (with_reducible refine Grew.drewN ?_ _) | (with_reducible refine Grew.drew ?_)))))); (focus (first | rfl | omega)); (focus (first | rfl | (simp only [size_ext, World.size_alloc, Array.size_append]; done) | (simp only [size_ext, World.size_alloc, Array.size_append]; omega))); intro va oa na hoa))
              go_roundw
              case rel => exact ⟨k + 1, m ++ [Z], 1, hkn, hoa, rfl, by go_num, by simp; exact HM.out, hmD.append (Dg.one hZ1), by omega, HST.out, _, _, rfl⟩
              case measure => simp [intOf]; omega
            · have d9 : decide ((X : Int) - Y - y < 0) = false := by simp; omega
              have hst := hst0.out (by omega)
              obtain ⟨Z, hZ⟩ : ∃ Z, Z = X - Y - y := ⟨_, rfl⟩
              have w3 : (X : Int) - Y - y = (Z : Int) := by omega
              rw [← hZ] at hst
              rw [w3] at w2 d9
              have w4 : IntKind.i64.wrap ((X : Int) - Y - y) = (Z : Int) := by rw [w3]; exact w2
              have hZ1 : Z < 65536 := by omega
              have HST := hid hst
              clear hst hZ hst0 hst1 w2 w3
              go_wp2
              refine wp_region_R (Grew V) [] [(0,0), (0,1), (0,3), (0,4), (0,7), (1,2), (1,5), (0,6), (0,8), (0,9)] (by kernel_rfl) (by kernel_rfl) (fun _ _ _ _ h _ => h) (by first | exact ⟨_, _, ext_drew⟩ | exact ⟨_, _, drew_ext0⟩ | (show Grew _ _; repeat (first | (with_reducible exact Grew.refl _) | (with_reducible assumption) | (with_reducible exact Grew.same_o) | (with_reducible exact Grew.app_o) | (with_reducible refine Grew.ext ?_ _ _) | (with_reducible refine Grew.alloc ?_ _) | ((with_reducible refine Grew.setCell ?_ ?_ _); rotate_left; (focus (dsimp only; first | omega | (simp only [size_ext, World.size_alloc, Array.size_append]; omega)))) | (with_reducible refine Grew.drewN ?_ _) | (with_reducible refine Grew.drew ?_)))) ?_
              go_wp2_with (first | ((with_reducible refine wpR_id ?_); first | (refine wpR_take (v := ?_) rfl rfl ?_ ?_; rotate_left; (focus (rintro w' ⟨o', n', rfl⟩; go_simp; try with_reducible rfl)); simp only [Act.put, List.setIfInBounds_toArray, List.set_cons_zero, List.set_cons_succ]) | (refine wpR_pure (v := ?_) rfl rfl ?_ ?_; rotate_left; (focus (intro w'; go_simp; try with_reducible rfl)); simp only [Act.put, List.setIfInBounds_toArray, List.set_cons_zero, List.set_cons_succ]) | (refine wpR_takeG (v := ?_) rfl rfl rfl rfl rfl ?_ ?_; rotate_left; (focus (rintro w' ⟨o', n', rfl⟩; go_simp; try with_reducible rfl)); simp only [Act.put, List.setIfInBounds_toArray, List.set_cons_zero, List.set_cons_succ]) | (refine wpR_skip rfl rfl rfl rfl rfl rfl ?_; simp only [Act.put, List.setIfInBounds_toArray, List.set_cons_zero, List.set_cons_succ]) | (refine wpR_skipU rfl rfl rfl rfl rfl ?_; simp only [Act.put, List.setIfInBounds_toArray, List.set_cons_zero, List.set_cons_succ]) | (refine wpR_do rfl rfl (fun K hK => ?_)) | (refine wpR_doG rfl rfl rfl rfl rfl (fun K hK => ?_)) | (refine wpR_last rfl rfl (fun K hK => ?_)) | (refine wpR_nil ?_)) | ((with_reducible refine wpR_go ?_ ?_); (focus (show Grew _ _; repeat (first | (with_reducible exact Grew.refl _) | (with_reducible assumption) | (with_reducible exact Grew.same_o) | (with_reducible exact Grew.app_o) | (with_reducible refine Grew.ext ?_ _ _) | (with_reducible refine Grew.alloc ?_ _) | ((with_reducible refine Grew.setCell ?_ ?_ _); rotate_left; (focus (dsimp only; first | omega | (simp only [size_ext, World.size_alloc, Array.size_append]; omega)))) | (with_reducible refine Grew.drewN ?_ _) | (with_reducible refine Grew.drew ?_))))) | ((with_reducible refine upon_id ?_); refine upon_fop rfl (by assumption) (by assumption) ?_; intro rr nn hr) | (go_at_call 122; ((with_reducible refine (h1 _ (by (show Grew _ _; repeat (first | (with_reducible exact Grew.refl _) | (with_reducible assumption) | (with_reducible exact Grew.same_o) | (with_reducible exact Grew.app_o) | (with_reducible refine Grew.ext ?_ _ _) | (with_reducible refine Grew.alloc ?_ _) | ((with_reducible refine Grew.setCell ?_ ?_ _); rotate_left; (focus (dsimp only; first | omega | (simp only [size_ext, World.size_alloc, Array.size_append]; omega)))) | (with_reducible refine Grew.drewN ?_ _) | (with_reducible refine Grew.drew ?_))))).mono ?_); rintro e w1 ⟨rfl, oc, kc, rfl⟩)) | (go_at_call 122; ((with_reducible refine (h2 _ (by (show Grew _ _; repeat (first | (with_reducible exact Grew.refl _) | (with_reducible assumption) | (with_reducible exact Grew.same_o) | (with_reducible exact Grew.app_o) | (with_reducible refine Grew.ext ?_ _ _) | (with_reducible refine Grew.alloc ?_ _) | ((with_reducible refine Grew.setCell ?_ ?_ _); rotate_left; (focus (dsimp only; first | omega | (simp only [size_ext, World.size_alloc, Array.size_append]; omega)))) | (with_reducible refine Grew.drewN ?_ _) | (with_reducible refine Grew.drew ?_))))).mono ?_); rintro e w1 ⟨rfl, od, kd, rfl⟩)) | (at_builtin; refine append1_n iundN iinfoN rfl (W := V) (l := m) (d := Z) ⟨_, _, rfl⟩ ?_ ?_ (by omega) _ _ rfl rfl rfl ?_ rfl ?_; (focus (first | exact hO | exact hO.grew (by (show Grew _ _; repeat (first | (with_reducible exact Grew.refl _) | (with_reducible assumption) | (with_reducible exact Grew.same_o) | (with_reducible exact Grew.app_o) | (with_reducible refine Grew.ext ?_ _ _) | (with_reducible refine Grew.alloc ?_ _) | ((with_reducible refine Grew.setCell ?_ ?_ _); rotate_left; (focus (dsimp only; first | omega | (simp only [size_ext, World.size_alloc, Array.size_append]; omega)))) | (with_reducible refine Grew.drewN ?_ _) | (with_reducible refine Grew.drew ?_)))))); (focus (first | rfl | omega)); (focus (first | rfl | (simp only [size_ext, World.size_alloc, Array.size_append]; done) | (simp only [size_ext, World.size_alloc, Array.size_append]; omega))); intro va oa na hoa))
              go_roundw
              case rel => exact ⟨k + 1, m ++ [Z], 0, hkn, hoa, rfl, by go_num, by simp; exact HM.out, hmD.append (Dg.one hZ1), by omega, HST.out, _, _, rfl⟩
              case measure => simp [intOf]; omega
          · have e : k = n := by omega
            subst e
            have hfin := sub_end hmk hmD hmV hle
            have HS2 := hid (show dat true (dv m) (16 * A) = r from hD2.out _ hfin)
            have hlf : m.length ≤ k + 1 := by omega
            clear hfin hmV hmk
            have hns := hO.ns
            go_wp2_with (first | (go_at_call 120; ((with_reducible refine (hmade _ _ m _ hns hmD hlf HS2.out).mono ?_); rintro e w1 ⟨v, rfl, hv, hbk, oz, nz, rfl⟩; obtain ⟨vn, va', vl, vc, vE, rfl⟩ := hv.shape)))
            ((have hbk2 : ∀ k, dBlock (.agg #[.bool vn, .slice va' vl vc, .int .i64 vE]) = some k → V.heap.size ≤ k := fun k hk => hO.block k (hbk k hk)); rw [ext_ext] at hv; refine bodyPost_ret (by simp [results, Try.results31, go_sem, *]; rfl) rfl ?_; exact ⟨_, rfl, hv.ext_set3 z3 (fun k hk => by have := hbk2 k hk; omega) _ _ _, fun k hk => by have := hbk2 k hk; have := gw.below.size; omega, grew_set3 gw (by omega) _ _ _ _ _⟩)
      · have d8 : decide (Z < 0) = false := by simpa using hz
        have hle := hZge hz
        clear hsame hdif1 hdif2 hn1 hn2' hla0 hla1 hlb0 hlb1 hZlt hZge
        go_enter Try.func31, Try.ntmps31
        refine seq_stop ?_
        go_wp2
        refine stop_go (fun W hW => ?_)
        have s1 : w.heap.size < W.heap.size := by rw [hW]; simp only [World.size_alloc]; omega
        have b1 : ∀ i, W.cell? ⟨w.heap.size, i, none⟩ = (#[.bool false, .slice s1' la c1', .int .i64 E] : Array Value)[i]? := by intro i; rw [hW]; go_simp
        have f1 : ∀ i, W.frozen? ⟨w.heap.size, i, none⟩ = false := by intro i; rw [hW]; go_simp
        have s2 : w.heap.size + 1 < W.heap.size := by rw [hW]; simp only [World.size_alloc]; omega
        have b2 : ∀ i, W.cell? ⟨w.heap.size + 1, i, none⟩ = (#[.bool true, .slice s2' lb c2', .int .i64 F] : Array Value)[i]? := by intro i; rw [hW]; go_simp
        have f2 : ∀ i, W.frozen? ⟨w.heap.size + 1, i, none⟩ = false := by intro i; rw [hW]; go_simp
        have s3 : w.heap.size + 1 + 1 < W.heap.size := by rw [hW]; simp only [World.size_alloc]; omega
        have b3 : ∀ i, W.cell? ⟨w.heap.size + 1 + 1, i, none⟩ = (#[.bool false, .slice none 0 0, .int .i64 0] : Array Value)[i]? := by intro i; rw [hW]; go_simp
        have f3 : ∀ i, W.frozen? ⟨w.heap.size + 1 + 1, i, none⟩ = false := by intro i; rw [hW]; go_simp
        have g0 : Grew w W := by rw [hW]; exact (((Grew.refl _).alloc _).alloc _).alloc _
        clear hW
        go_wp2_with (first | (go_at_call 121; ((with_reducible refine (hends _ (Grew.trans g0 (by (show Grew _ _; repeat (first | (with_reducible exact Grew.refl _) | (with_reducible assumption) | (with_reducible exact Grew.same_o) | (with_reducible exact Grew.app_o) | (with_reducible refine Grew.ext ?_ _ _) | (with_reducible refine Grew.alloc ?_ _) | ((with_reducible refine Grew.setCell ?_ ?_ _); rotate_left; (focus (dsimp only; first | omega | (simp only [size_ext, World.size_alloc, Array.size_append]; omega)))) | (with_reducible refine Grew.drewN ?_ _) | (with_reducible refine Grew.drew ?_)))))).mono ?_); rintro e w1 ⟨rfl, o1, k1, rfl⟩)) | (go_at_call 123; ((with_reducible refine (hsz _ (Grew.trans g0 (by (show Grew _ _; repeat (first | (with_reducible exact Grew.refl _) | (with_reducible assumption) | (with_reducible exact Grew.same_o) | (with_reducible exact Grew.app_o) | (with_reducible refine Grew.ext ?_ _ _) | (with_reducible refine Grew.alloc ?_ _) | ((with_reducible refine Grew.setCell ?_ ?_ _); rotate_left; (focus (dsimp only; first | omega | (simp only [size_ext, World.size_alloc, Array.size_append]; omega)))) | (with_reducible refine Grew.drewN ?_ _) | (with_reducible refine Grew.drew ?_)))))).mono ?_); rintro e w1 ⟨rfl, o9, k9, rfl⟩)))
        refine name_any (fun V hV => ?_)
        have gw : Grew w V := by rw [← hV]; (show Grew _ _; repeat (first | (with_reducible exact Grew.refl _) | (with_reducible assumption) | (with_reducible exact Grew.same_o) | (with_reducible exact Grew.app_o) | (with_reducible refine Grew.ext ?_ _ _) | (with_reducible refine Grew.alloc ?_ _) | ((with_reducible refine Grew.setCell ?_ ?_ _); rotate_left; (focus (dsimp only; first | omega | (simp only [size_ext, World.size_alloc, Array.size_append]; omega)))) | (with_reducible refine Grew.drewN ?_ _) | (with_reducible refine Grew.drew ?_)))
        have c10 : V.cell? ⟨w.heap.size, 0, none⟩ = some (.bool false) := by subst hV; go_simp
        have c11 : V.cell? ⟨w.heap.size, 1, none⟩ = some (.slice s1' la c1') := by subst hV; go_simp
        have c12 : V.cell? ⟨w.heap.size, 2, none⟩ = some (.int .i64 E) := by subst hV; go_simp
        have c20 : V.cell? ⟨w.heap.size + 1, 0, none⟩ = some (.bool true) := by subst hV; go_simp
        have c21 : V.cell? ⟨w.heap.size + 1, 1, none⟩ = some (.slice s2' lb c2') := by subst hV; go_simp
        have c22 : V.cell? ⟨w.heap.size + 1, 2, none⟩ = some (.int .i64 F) := by subst hV; go_simp
        have c3 : ∀ i, V.cell? ⟨w.heap.size + 1 + 1, i, none⟩ = (#[.bool false, .slice none 0 0, .int .i64 0] : Array Value)[i]? := by subst hV; intro i; go_simp
        have fz : ∀ i, V.frozen? ⟨w.heap.size + 1 + 1, i, none⟩ = false := by subst hV; intro i; go_simp
        have zV : W.heap.size ≤ V.heap.size := by subst hV; simp only [size_ext, size_setCell']; omega
        have z1 : w.heap.size < V.heap.size := by omega
        have z2 : w.heap.size + 1 < V.heap.size := by omega
        have z3 : w.heap.size + 1 + 1 < V.heap.size := by omega
        clear hV b1 b2 b3 f1 f2 f3
        go_loopw [7, 8, 11] (fun u c d wx => ∃ (k : Nat) (m : List Nat) (y : Nat), k ≤ n ∧ OwnN wx V.heap.size u m ∧ c = .int .i64 y ∧ d = .int .i64 (A + k) ∧ m.length = k ∧ Dg m ∧ y ≤ 1 ∧ dv m + ds g k = ds f k + y * 65536 ^ k ∧ ∃ o n, wx = ext V o n) (fun _ _ d _ => (A + n - intOf d).toNat)
        case atStart => exact ⟨0, [], 0, Nat.zero_le _, OwnN.nil _ _, rfl, by go_num, rfl, Dg.nil, by omega, by simp [dv, ds], _, _, ext_zero.symm⟩
        case round =>
          obtain ⟨k, m, y, hk, hO, rfl, rfl, hmk, hmD, hy, hmV, o2, m2, rfl⟩ := hrel
          have hml : m.length ≤ 600000 := by omega
          by_cases hkn : k < n
          · have h1 := fun w' p => hat1 k w' hkn (Grew.trans gw p)
            have h2 := fun w' p => hat2 k w' hkn (Grew.trans gw p)
            have hfk := hf16 k
            have hgk := hg16 k
            have hst0 := hid (sub_step0 hmk hmV)
            have hst1 := hid (fun hlt => sub_step1 hmk hmV hlt hgk hy)
            obtain ⟨X, hX⟩ : ∃ X, X = f k := ⟨_, rfl⟩
            obtain ⟨Y, hY⟩ : ∃ Y, Y = g k := ⟨_, rfl⟩
            rw [← hX] at h1 hfk hst0 hst1
            rw [← hY] at h2 hgk hst0 hst1
            have w1 : IntKind.i64.wrap ((X : Int) - Y) = (X : Int) - Y := IntWalk.i64_in _ (by omega)
            have w2 : IntKind.i64.wrap ((X : Int) - Y - y) = (X : Int) - Y - y := IntWalk.i64_in _ (by omega)
            have HM := hid hmk
            clear hmV hX hY hmk
            by_cases hlt : X < Y + y
            · have d9 : decide ((X : Int) - Y - y < 0) = true := by simp; omega
              have w3 : IntKind.i64.wrap ((X : Int) - Y - y + 65536) = ((X + 65536 - Y - y : Nat) : Int) := by rw [IntWalk.i64_in _ (by omega)]; omega
              have hst := hst1.out hlt
              obtain ⟨Z, hZ⟩ : ∃ Z, Z = X + 65536 - Y - y := ⟨_, rfl⟩
              rw [← hZ] at w3 hst
              have hZ1 : Z < 65536 := by omega
              have HST := hid hst
              clear hst hZ hst0 hst1
              go_wp2
              refine wp_region_R (Grew V) [] [(0,0), (0,1), (0,3), (0,4), (0,7), (1,2), (1,5), (0,6), (0,8), (0,9)] (by kernel_rfl) (by kernel_rfl) (fun _ _ _ _ h _ => h) (by first | exact ⟨_, _, ext_drew⟩ | exact ⟨_, _, drew_ext0⟩ | (show Grew _ _; repeat (first | (with_reducible exact Grew.refl _) | (with_reducible assumption) | (with_reducible exact Grew.same_o) | (with_reducible exact Grew.app_o) | (with_reducible refine Grew.ext ?_ _ _) | (with_reducible refine Grew.alloc ?_ _) | ((with_reducible refine Grew.setCell ?_ ?_ _); rotate_left; (focus (dsimp only; first | omega | (simp only [size_ext, World.size_alloc, Array.size_append]; omega)))) | (with_reducible refine Grew.drewN ?_ _) | (with_reducible refine Grew.drew ?_)))) ?_
              go_wp2_with (first | ((with_reducible refine wpR_id ?_); first | (refine wpR_take (v := ?_) rfl rfl ?_ ?_; rotate_left; (focus (rintro w' ⟨o', n', rfl⟩; go_simp; try with_reducible rfl)); simp only [Act.put, List.setIfInBounds_toArray, List.set_cons_zero, List.set_cons_succ]) | (refine wpR_pure (v := ?_) rfl rfl ?_ ?_; rotate_left; (focus (intro w'; go_simp; try with_reducible rfl)); simp only [Act.put, List.setIfInBounds_toArray, List.set_cons_zero, List.set_cons_succ]) | (refine wpR_takeG (v := ?_) rfl rfl rfl rfl rfl ?_ ?_; rotate_left; (focus (rintro w' ⟨o', n', rfl⟩; go_simp; try with_reducible rfl)); simp only [Act.put, List.setIfInBounds_toArray, List.set_cons_zero, List.set_cons_succ]) | (refine wpR_skip rfl rfl rfl rfl rfl rfl ?_; simp only [Act.put, List.setIfInBounds_toArray, List.set_cons_zero, List.set_cons_succ]) | (refine wpR_skipU rfl rfl rfl rfl rfl ?_; simp only [Act.put, List.setIfInBounds_toArray, List.set_cons_zero, List.set_cons_succ]) | (refine wpR_do rfl rfl (fun K hK => ?_)) | (refine wpR_doG rfl rfl rfl rfl rfl (fun K hK => ?_)) | (refine wpR_last rfl rfl (fun K hK => ?_)) | (refine wpR_nil ?_)) | ((with_reducible refine wpR_go ?_ ?_); (focus (show Grew _ _; repeat (first | (with_reducible exact Grew.refl _) | (with_reducible assumption) | (with_reducible exact Grew.same_o) | (with_reducible exact Grew.app_o) | (with_reducible refine Grew.ext ?_ _ _) | (with_reducible refine Grew.alloc ?_ _) | ((with_reducible refine Grew.setCell ?_ ?_ _); rotate_left; (focus (dsimp only; first | omega | (simp only [size_ext, World.size_alloc, Array.size_append]; omega)))) | (with_reducible refine Grew.drewN ?_ _) | (with_reducible refine Grew.drew ?_))))) | ((with_reducible refine upon_id ?_); refine upon_fop rfl (by assumption) (by assumption) ?_; intro rr nn hr) | (go_at_call 122; ((with_reducible refine (h1 _ (by (show Grew _ _; repeat (first | (with_reducible exact Grew.refl _) | (with_reducible assumption) | (with_reducible exact Grew.same_o) | (with_reducible exact Grew.app_o) | (with_reducible refine Grew.ext ?_ _ _) | (with_reducible refine Grew.alloc ?_ _) | ((with_reducible refine Grew.setCell ?_ ?_ _); rotate_left; (focus (dsimp only; first | omega | (simp only [size_ext, World.size_alloc, Array.size_append]; omega)))) | (with_reducible refine Grew.drewN ?_ _) | (with_reducible refine Grew.drew ?_))))).mono ?_); rintro e w1 ⟨rfl, oc, kc, rfl⟩)) | (go_at_call 122; ((with_reducible refine (h2 _ (by (show Grew _ _; repeat (first | (with_reducible exact Grew.refl _) | (with_reducible assumption) | (with_reducible exact Grew.same_o) | (with_reducible exact Grew.app_o) | (with_reducible refine Grew.ext ?_ _ _) | (with_reducible refine Grew.alloc ?_ _) | ((with_reducible refine Grew.setCell ?_ ?_ _); rotate_left; (focus (dsimp only; first | omega | (simp only [size_ext, World.size_alloc, Array.size_append]; omega)))) | (with_reducible refine Grew.drewN ?_ _) | (with_reducible refine Grew.drew ?_))))).mono ?_); rintro e w1 ⟨rfl, od, kd, rfl⟩)) | (at_builtin; refine append1_n iundN iinfoN rfl (W := V) (l := m) (d := Z) ⟨_, _, rfl⟩ ?_ ?_ (by omega) _ _ rfl rfl rfl ?_ rfl ?_; (focus (first | exact hO | exact hO.grew (by (show Grew _ _; repeat (first | (with_reducible exact Grew.refl _) | (with_reducible assumption) | (with_reducible exact Grew.same_o) | (with_reducible exact Grew.app_o) | (with_reducible refine Grew.ext ?_ _ _) | (with_reducible refine Grew.alloc ?_ _) | ((with_reducible refine Grew.setCell ?_ ?_ _); rotate_left; (focus (dsimp only; first | omega | (simp only [size_ext, World.size_alloc, Array.size_append]; omega)))) | (with_reducible refine Grew.drewN ?_ _) | (with_reducible refine Grew.drew ?_)))))); (focus (first | rfl | omega)); (focus (first | rfl | (simp only [size_ext, World.size_alloc, Array.size_append]; done) | (simp only [size_ext, World.size_alloc, Array.size_append]; omega))); intro va oa na hoa))
              go_roundw
              case rel => exact ⟨k + 1, m ++ [Z], 1, hkn, hoa, rfl, by go_num, by simp; exact HM.out, hmD.append (Dg.one hZ1), by omega, HST.out, _, _, rfl⟩
              case measure => simp [intOf]; omega
            · have d9 : decide ((X : Int) - Y - y < 0) = false := by simp; omega
              have hst := hst0.out (by omega)
              obtain ⟨Z, hZ⟩ : ∃ Z, Z = X - Y - y := ⟨_, rfl⟩
              have w3 : (X : Int) - Y - y = (Z : Int) := by omega
              rw [← hZ] at hst
              rw [w3] at w2 d9
              have w4 : IntKind.i64.wrap ((X : Int) - Y - y) = (Z : Int) := by rw [w3]; exact w2
              have hZ1 : Z < 65536 := by omega
              have HST := hid hst
              clear hst hZ hst0 hst1 w2 w3
              go_wp2
              refine wp_region_R (Grew V) [] [(0,0), (0,1), (0,3), (0,4), (0,7), (1,2), (1,5), (0,6), (0,8), (0,9)] (by kernel_rfl) (by kernel_rfl) (fun _ _ _ _ h _ => h) (by first | exact ⟨_, _, ext_drew⟩ | exact ⟨_, _, drew_ext0⟩ | (show Grew _ _; repeat (first | (with_reducible exact Grew.refl _) | (with_reducible assumption) | (with_reducible exact Grew.same_o) | (with_reducible exact Grew.app_o) | (with_reducible refine Grew.ext ?_ _ _) | (with_reducible refine Grew.alloc ?_ _) | ((with_reducible refine Grew.setCell ?_ ?_ _); rotate_left; (focus (dsimp only; first | omega | (simp only [size_ext, World.size_alloc, Array.size_append]; omega)))) | (with_reducible refine Grew.drewN ?_ _) | (with_reducible refine Grew.drew ?_)))) ?_
              go_wp2_with (first | ((with_reducible refine wpR_id ?_); first | (refine wpR_take (v := ?_) rfl rfl ?_ ?_; rotate_left; (focus (rintro w' ⟨o', n', rfl⟩; go_simp; try with_reducible rfl)); simp only [Act.put, List.setIfInBounds_toArray, List.set_cons_zero, List.set_cons_succ]) | (refine wpR_pure (v := ?_) rfl rfl ?_ ?_; rotate_left; (focus (intro w'; go_simp; try with_reducible rfl)); simp only [Act.put, List.setIfInBounds_toArray, List.set_cons_zero, List.set_cons_succ]) | (refine wpR_takeG (v := ?_) rfl rfl rfl rfl rfl ?_ ?_; rotate_left; (focus (rintro w' ⟨o', n', rfl⟩; go_simp; try with_reducible rfl)); simp only [Act.put, List.setIfInBounds_toArray, List.set_cons_zero, List.set_cons_succ]) | (refine wpR_skip rfl rfl rfl rfl rfl rfl ?_; simp only [Act.put, List.setIfInBounds_toArray, List.set_cons_zero, List.set_cons_succ]) | (refine wpR_skipU rfl rfl rfl rfl rfl ?_; simp only [Act.put, List.setIfInBounds_toArray, List.set_cons_zero, List.set_cons_succ]) | (refine wpR_do rfl rfl (fun K hK => ?_)) | (refine wpR_doG rfl rfl rfl rfl rfl (fun K hK => ?_)) | (refine wpR_last rfl rfl (fun K hK => ?_)) | (refine wpR_nil ?_)) | ((with_reducible refine wpR_go ?_ ?_); (focus (show Grew _ _; repeat (first | (with_reducible exact Grew.refl _) | (with_reducible assumption) | (with_reducible exact Grew.same_o) | (with_reducible exact Grew.app_o) | (with_reducible refine Grew.ext ?_ _ _) | (with_reducible refine Grew.alloc ?_ _) | ((with_reducible refine Grew.setCell ?_ ?_ _); rotate_left; (focus (dsimp only; first | omega | (simp only [size_ext, World.size_alloc, Array.size_append]; omega)))) | (with_reducible refine Grew.drewN ?_ _) | (with_reducible refine Grew.drew ?_))))) | ((with_reducible refine upon_id ?_); refine upon_fop rfl (by assumption) (by assumption) ?_; intro rr nn hr) | (go_at_call 122; ((with_reducible refine (h1 _ (by (show Grew _ _; repeat (first | (with_reducible exact Grew.refl _) | (with_reducible assumption) | (with_reducible exact Grew.same_o) | (with_reducible exact Grew.app_o) | (with_reducible refine Grew.ext ?_ _ _) | (with_reducible refine Grew.alloc ?_ _) | ((with_reducible refine Grew.setCell ?_ ?_ _); rotate_left; (focus (dsimp only; first | omega | (simp only [size_ext, World.size_alloc, Array.size_append]; omega)))) | (with_reducible refine Grew.drewN ?_ _) | (with_reducible refine Grew.drew ?_))))).mono ?_); rintro e w1 ⟨rfl, oc, kc, rfl⟩)) | (go_at_call 122; ((with_reducible refine (h2 _ (by (show Grew _ _; repeat (first | (with_reducible exact Grew.refl _) | (with_reducible assumption) | (with_reducible exact Grew.same_o) | (with_reducible exact Grew.app_o) | (with_reducible refine Grew.ext ?_ _ _) | (with_reducible refine Grew.alloc ?_ _) | ((with_reducible refine Grew.setCell ?_ ?_ _); rotate_left; (focus (dsimp only; first | omega | (simp only [size_ext, World.size_alloc, Array.size_append]; omega)))) | (with_reducible refine Grew.drewN ?_ _) | (with_reducible refine Grew.drew ?_))))).mono ?_); rintro e w1 ⟨rfl, od, kd, rfl⟩)) | (at_builtin; refine append1_n iundN iinfoN rfl (W := V) (l := m) (d := Z) ⟨_, _, rfl⟩ ?_ ?_ (by omega) _ _ rfl rfl rfl ?_ rfl ?_; (focus (first | exact hO | exact hO.grew (by (show Grew _ _; repeat (first | (with_reducible exact Grew.refl _) | (with_reducible assumption) | (with_reducible exact Grew.same_o) | (with_reducible exact Grew.app_o) | (with_reducible refine Grew.ext ?_ _ _) | (with_reducible refine Grew.alloc ?_ _) | ((with_reducible refine Grew.setCell ?_ ?_ _); rotate_left; (focus (dsimp only; first | omega | (simp only [size_ext, World.size_alloc, Array.size_append]; omega)))) | (with_reducible refine Grew.drewN ?_ _) | (with_reducible refine Grew.drew ?_)))))); (focus (first | rfl | omega)); (focus (first | rfl | (simp only [size_ext, World.size_alloc, Array.size_append]; done) | (simp only [size_ext, World.size_alloc, Array.size_append]; omega))); intro va oa na hoa))
              go_roundw
              case rel => exact ⟨k + 1, m ++ [Z], 0, hkn, hoa, rfl, by go_num, by simp; exact HM.out, hmD.append (Dg.one hZ1), by omega, HST.out, _, _, rfl⟩
              case measure => simp [intOf]; omega
          · have e : k = n := by omega
            subst e
            have hfin := sub_end hmk hmD hmV hle
            have HS2 := hid (show dat false (dv m) (16 * A) = r from hD1.out _ hfin)
            have hlf : m.length ≤ k + 1 := by omega
            clear hfin hmV hmk
            have hns := hO.ns
            go_wp2_with (first | (go_at_call 120; ((with_reducible refine (hmade _ _ m _ hns hmD hlf HS2.out).mono ?_); rintro e w1 ⟨v, rfl, hv, hbk, oz, nz, rfl⟩; obtain ⟨vn, va', vl, vc, vE, rfl⟩ := hv.shape)))
            ((have hbk2 : ∀ k, dBlock (.agg #[.bool vn, .slice va' vl vc, .int .i64 vE]) = some k → V.heap.size ≤ k := fun k hk => hO.block k (hbk k hk)); rw [ext_ext] at hv; refine bodyPost_ret (by simp [results, Try.results31, go_sem, *]; rfl) rfl ?_; exact ⟨_, rfl, hv.ext_set3 z3 (fun k hk => by have := hbk2 k hk; omega) _ _ _, fun k hk => by have := hbk2 k hk; have := gw.below.size; omega, grew_set3 gw (by omega) _ _ _ _ _⟩)
  · have h1n : a ≠ [] := fun h => by have := hn1 h; cases this
    have e1 := hla1 h1n
    by_cases h2n : b = []
    · have hS := hsame (.inr (.inr h2n))
      have := hlb0 h2n
      subst this
      clear hsame hdif1 hdif2 hn1 hn2' hla0 hla1 hlb0 hlb1 hZlt hZge
      go_enter Try.func31, Try.ntmps31
      refine seq_stop ?_
      go_wp2
      refine stop_go (fun W hW => ?_)
      have s1 : w.heap.size < W.heap.size := by rw [hW]; simp only [World.size_alloc]; omega
      have b1 : ∀ i, W.cell? ⟨w.heap.size, i, none⟩ = (#[.bool true, .slice s1' la c1', .int .i64 E] : Array Value)[i]? := by intro i; rw [hW]; go_simp
      have f1 : ∀ i, W.frozen? ⟨w.heap.size, i, none⟩ = false := by intro i; rw [hW]; go_simp
      have s2 : w.heap.size + 1 < W.heap.size := by rw [hW]; simp only [World.size_alloc]; omega
      have b2 : ∀ i, W.cell? ⟨w.heap.size + 1, i, none⟩ = (#[.bool false, .slice s2' 0 c2', .int .i64 F] : Array Value)[i]? := by intro i; rw [hW]; go_simp
      have f2 : ∀ i, W.frozen? ⟨w.heap.size + 1, i, none⟩ = false := by intro i; rw [hW]; go_simp
      have s3 : w.heap.size + 1 + 1 < W.heap.size := by rw [hW]; simp only [World.size_alloc]; omega
      have b3 : ∀ i, W.cell? ⟨w.heap.size + 1 + 1, i, none⟩ = (#[.bool false, .slice none 0 0, .int .i64 0] : Array Value)[i]? := by intro i; rw [hW]; go_simp
      have f3 : ∀ i, W.frozen? ⟨w.heap.size + 1 + 1, i, none⟩ = false := by intro i; rw [hW]; go_simp
      have g0 : Grew w W := by rw [hW]; exact (((Grew.refl _).alloc _).alloc _).alloc _
      clear hW
      go_wp2_with (first | (go_at_call 121; ((with_reducible refine (hends _ (Grew.trans g0 (by (show Grew _ _; repeat (first | (with_reducible exact Grew.refl _) | (with_reducible assumption) | (with_reducible exact Grew.same_o) | (with_reducible exact Grew.app_o) | (with_reducible refine Grew.ext ?_ _ _) | (with_reducible refine Grew.alloc ?_ _) | ((with_reducible refine Grew.setCell ?_ ?_ _); rotate_left; (focus (dsimp only; first | omega | (simp only [size_ext, World.size_alloc, Array.size_append]; omega)))) | (with_reducible refine Grew.drewN ?_ _) | (with_reducible refine Grew.drew ?_)))))).mono ?_); rintro e w1 ⟨rfl, o1, k1, rfl⟩)) | (go_at_call 123; ((with_reducible refine (hsz _ (Grew.trans g0 (by (show Grew _ _; repeat (first | (with_reducible exact Grew.refl _) | (with_reducible assumption) | (with_reducible exact Grew.same_o) | (with_reducible exact Grew.app_o) | (with_reducible refine Grew.ext ?_ _ _) | (with_reducible refine Grew.alloc ?_ _) | ((with_reducible refine Grew.setCell ?_ ?_ _); rotate_left; (focus (dsimp only; first | omega | (simp only [size_ext, World.size_alloc, Array.size_append]; omega)))) | (with_reducible refine Grew.drewN ?_ _) | (with_reducible refine Grew.drew ?_)))))).mono ?_); rintro e w1 ⟨rfl, o9, k9, rfl⟩)))
      refine name_any (fun V hV => ?_)
      have gV : Grew W V := by rw [← hV]; (show Grew _ _; repeat (first | (with_reducible exact Grew.refl _) | (with_reducible assumption) | (with_reducible exact Grew.same_o) | (with_reducible exact Grew.app_o) | (with_reducible refine Grew.ext ?_ _ _) | (with_reducible refine Grew.alloc ?_ _) | ((with_reducible refine Grew.setCell ?_ ?_ _); rotate_left; (focus (dsimp only; first | omega | (simp only [size_ext, World.size_alloc, Array.size_append]; omega)))) | (with_reducible refine Grew.drewN ?_ _) | (with_reducible refine Grew.drew ?_)))
      have c1 : ∀ i, V.cell? ⟨w.heap.size, i, none⟩ = (#[.bool true, .slice s1' la c1', .int .i64 E] : Array Value)[i]? := fun i => (gV.cell s1).trans (b1 i)
      have c2 : ∀ i, V.cell? ⟨w.heap.size + 1, i, none⟩ = (#[.bool false, .slice s2' 0 c2', .int .i64 F] : Array Value)[i]? := fun i => (gV.cell s2).trans (b2 i)
      have c3 : ∀ i, V.cell? ⟨w.heap.size + 1 + 1, i, none⟩ = (#[.bool false, .slice none 0 0, .int .i64 0] : Array Value)[i]? := fun i => (gV.cell s3).trans (b3 i)
      have fz : ∀ i, V.frozen? ⟨w.heap.size + 1 + 1, i, none⟩ = false := fun i => (gV.frozen s3).trans (f3 i)
      have zV := gV.below.size
      have z1 : w.heap.size < V.heap.size := by omega
      have z2 : w.heap.size + 1 < V.heap.size := by omega
      have z3 : w.heap.size + 1 + 1 < V.heap.size := by omega
      have gw : Grew w V := Grew.trans g0 gV
      clear hV gV b1 b2 b3 f1 f2 f3
      go_loopw [7, 8, 10] (fun u c d wx => ∃ (k : Nat) (m : List Nat) (y : Nat), k ≤ n ∧ OwnN wx V.heap.size u m ∧ c = .int .i64 y ∧ d = .int .i64 (A + k) ∧ m.length = k ∧ Dg m ∧ y ≤ 1 ∧ dv m + y * 65536 ^ k = ds f k + ds g k ∧ ∃ o n, wx = ext V o n) (fun _ _ d _ => (A + n - intOf d).toNat)
      case atStart => exact ⟨0, [], 0, Nat.zero_le _, OwnN.nil _ _, rfl, by go_num, rfl, Dg.nil, by omega, by simp [dv, ds], _, _, ext_zero.symm⟩
      case round =>
        obtain ⟨k, m, y, hk, hO, rfl, rfl, hmk, hmD, hy, hmV, o2, m2, rfl⟩ := hrel
        have hml : m.length ≤ 600000 := by omega
        by_cases hkn : k < n
        · have h1 := fun w' p => hat1 k w' hkn (Grew.trans gw p)
          have h2 := fun w' p => hat2 k w' hkn (Grew.trans gw p)
          have hfk := hf16 k
          have hgk := hg16 k
          obtain ⟨S, hS⟩ : ∃ S, S = y + f k + g k := ⟨_, rfl⟩
          have hst := add_step hmk hS hmV
          obtain ⟨X, hX⟩ : ∃ X, X = f k := ⟨_, rfl⟩
          obtain ⟨Y, hY⟩ : ∃ Y, Y = g k := ⟨_, rfl⟩
          rw [← hX] at h1 hfk hS
          rw [← hY] at h2 hgk hS
          obtain ⟨Mo, hMo⟩ : ∃ Mo, Mo = S % 65536 := ⟨_, rfl⟩
          obtain ⟨Di, hDi⟩ : ∃ Di, Di = S / 65536 := ⟨_, rfl⟩
          have m1 : ((y : Int) + X + Y).tmod 65536 = (Mo : Int) := by rw [Int.tmod_eq_emod_of_nonneg (by omega)]; omega
          have m2' : ((y : Int) + X + Y).tdiv 65536 = (Di : Int) := by rw [Int.tdiv_eq_ediv_of_nonneg (by omega)]; omega
          rw [← hMo, ← hDi] at hst
          have w1 : IntKind.i64.wrap ((y : Int) + X) = (y : Int) + X := IntWalk.i64_in _ (by omega)
          have w2 : IntKind.i64.wrap ((y : Int) + X + Y) = (y : Int) + X + Y := IntWalk.i64_in _ (by omega)
          have hDi1 : Di ≤ 1 := by omega
          have hMo1 : Mo < 65536 := by omega
          have HST := hid hst
          have HM := hid hmk
          clear hst hmV hX hY hS hMo hDi hmk
          go_wp2
          refine wp_region_R (Grew V) [] [(0,0), (0,1), (0,2), (0,5), (0,6), (1,3), (0,4), (1,7), (0,8), (0,9)] (by kernel_rfl) (by kernel_rfl) (fun _ _ _ _ h _ => h) (by first | exact ⟨_, _, ext_drew⟩ | exact ⟨_, _, drew_ext0⟩ | (show Grew _ _; repeat (first | (with_reducible exact Grew.refl _) | (with_reducible assumption) | (with_reducible exact Grew.same_o) | (with_reducible exact Grew.app_o) | (with_reducible refine Grew.ext ?_ _ _) | (with_reducible refine Grew.alloc ?_ _) | ((with_reducible refine Grew.setCell ?_ ?_ _); rotate_left; (focus (dsimp only; first | omega | (simp only [size_ext, World.size_alloc, Array.size_append]; omega)))) | (with_reducible refine Grew.drewN ?_ _) | (with_reducible refine Grew.drew ?_)))) ?_
          go_wp2_with (first | ((with_reducible refine wpR_id ?_); first | (refine wpR_take (v := ?_) rfl rfl ?_ ?_; rotate_left; (focus (rintro w' ⟨o', n', rfl⟩; go_simp; try with_reducible rfl)); simp only [Act.put, List.setIfInBounds_toArray, List.set_cons_zero, List.set_cons_succ]) | (refine wpR_pure (v := ?_) rfl rfl ?_ ?_; rotate_left; (focus (intro w'; go_simp; try with_reducible rfl)); simp only [Act.put, List.setIfInBounds_toArray, List.set_cons_zero, List.set_cons_succ]) | (refine wpR_takeG (v := ?_) rfl rfl rfl rfl rfl ?_ ?_; rotate_left; (focus (rintro w' ⟨o', n', rfl⟩; go_simp; try with_reducible rfl)); simp only [Act.put, List.setIfInBounds_toArray, List.set_cons_zero, List.set_cons_succ]) | (refine wpR_skip rfl rfl rfl rfl rfl rfl ?_; simp only [Act.put, List.setIfInBounds_toArray, List.set_cons_zero, List.set_cons_succ]) | (refine wpR_skipU rfl rfl rfl rfl rfl ?_; simp only [Act.put, List.setIfInBounds_toArray, List.set_cons_zero, List.set_cons_succ]) | (refine wpR_do rfl rfl (fun K hK => ?_)) | (refine wpR_doG rfl rfl rfl rfl rfl (fun K hK => ?_)) | (refine wpR_last rfl rfl (fun K hK => ?_)) | (refine wpR_nil ?_)) | ((with_reducible refine wpR_go ?_ ?_); (focus (show Grew _ _; repeat (first | (with_reducible exact Grew.refl _) | (with_reducible assumption) | (with_reducible exact Grew.same_o) | (with_reducible exact Grew.app_o) | (with_reducible refine Grew.ext ?_ _ _) | (with_reducible refine Grew.alloc ?_ _) | ((with_reducible refine Grew.setCell ?_ ?_ _); rotate_left; (focus (dsimp only; first | omega | (simp only [size_ext, World.size_alloc, Array.size_append]; omega)))) | (with_reducible refine Grew.drewN ?_ _) | (with_reducible refine Grew.drew ?_))))) | ((with_reducible refine upon_id ?_); refine upon_fop rfl (by assumption) (by assumption) ?_; intro rr nn hr) | (go_at_call 122; ((with_reducible refine (h1 _ (by (show Grew _ _; repeat (first | (with_reducible exact Grew.refl _) | (with_reducible assumption) | (with_reducible exact Grew.same_o) | (with_reducible exact Grew.app_o) | (with_reducible refine Grew.ext ?_ _ _) | (with_reducible refine Grew.alloc ?_ _) | ((with_reducible refine Grew.setCell ?_ ?_ _); rotate_left; (focus (dsimp only; first | omega | (simp only [size_ext, World.size_alloc, Array.size_append]; omega)))) | (with_reducible refine Grew.drewN ?_ _) | (with_reducible refine Grew.drew ?_))))).mono ?_); rintro e w1 ⟨rfl, oc, kc, rfl⟩)) | (go_at_call 122; ((with_reducible refine (h2 _ (by (show Grew _ _; repeat (first | (with_reducible exact Grew.refl _) | (with_reducible assumption) | (with_reducible exact Grew.same_o) | (with_reducible exact Grew.app_o) | (with_reducible refine Grew.ext ?_ _ _) | (with_reducible refine Grew.alloc ?_ _) | ((with_reducible refine Grew.setCell ?_ ?_ _); rotate_left; (focus (dsimp only; first | omega | (simp only [size_ext, World.size_alloc, Array.size_append]; omega)))) | (with_reducible refine Grew.drewN ?_ _) | (with_reducible refine Grew.drew ?_))))).mono ?_); rintro e w1 ⟨rfl, od, kd, rfl⟩)) | (at_builtin; refine append1_n iundN iinfoN rfl (W := V) (l := m) (d := Mo) ⟨_, _, rfl⟩ ?_ ?_ (by omega) _ _ rfl rfl rfl ?_ rfl ?_; (focus (first | exact hO | exact hO.grew (by (show Grew _ _; repeat (first | (with_reducible exact Grew.refl _) | (with_reducible assumption) | (with_reducible exact Grew.same_o) | (with_reducible exact Grew.app_o) | (with_reducible refine Grew.ext ?_ _ _) | (with_reducible refine Grew.alloc ?_ _) | ((with_reducible refine Grew.setCell ?_ ?_ _); rotate_left; (focus (dsimp only; first | omega | (simp only [size_ext, World.size_alloc, Array.size_append]; omega)))) | (with_reducible refine Grew.drewN ?_ _) | (with_reducible refine Grew.drew ?_)))))); (focus (first | rfl | omega)); (focus (first | rfl | (simp only [size_ext, World.size_alloc, Array.size_append]; done) | (simp only [size_ext, World.size_alloc, Array.size_append]; omega))); intro va oa na hoa))
          go_roundw
          case rel => exact ⟨k + 1, m ++ [Mo], Di, hkn, hoa, rfl, by go_num, by simp; exact HM.out, hmD.append (Dg.one hMo1), hDi1, HST.out, _, _, rfl⟩
          case measure => simp [intOf]; omega
        · have e : k = n := by omega
          subst e
          have hfin : dv (m ++ [y]) = ds f k + ds g k := by rw [dv_snoc, hmk]; exact hmV
          have hDf : Dg (m ++ [y]) := hmD.append (Dg.one (by omega))
          have hlf : (m ++ [y]).length ≤ k + 1 := by simp; omega
          have HS2 := hid (show dat true (dv (m ++ [y])) (16 * A) = r by rw [hfin]; exact hS)
          clear hfin hmV hmk
          go_wp2_with (first | (at_builtin; refine append1_n iundN iinfoN rfl (W := V) (l := m) (d := y) ⟨_, _, rfl⟩ ?_ ?_ (by omega) _ _ rfl rfl rfl ?_ rfl ?_; (focus (first | exact hO | exact hO.grew (by (show Grew _ _; repeat (first | (with_reducible exact Grew.refl _) | (with_reducible assumption) | (with_reducible exact Grew.same_o) | (with_reducible exact Grew.app_o) | (with_reducible refine Grew.ext ?_ _ _) | (with_reducible refine Grew.alloc ?_ _) | ((with_reducible refine Grew.setCell ?_ ?_ _); rotate_left; (focus (dsimp only; first | omega | (simp only [size_ext, World.size_alloc, Array.size_append]; omega)))) | (with_reducible refine Grew.drewN ?_ _) | (with_reducible refine Grew.drew ?_)))))); (focus (first | rfl | omega)); (focus (first | rfl | (simp only [size_ext, World.size_alloc, Array.size_append]; done) | (simp only [size_ext, World.size_alloc, Array.size_append]; omega))); intro va oa na hoa) | (go_at_call 120; ((with_reducible refine (hmade _ _ (m ++ [y]) _ hoa.ns hDf hlf HS2.out).mono ?_); rintro e w1 ⟨v, rfl, hv, hbk, oz, nz, rfl⟩; obtain ⟨vn, va', vl, vc, vE, rfl⟩ := hv.shape)))
          ((have hbk2 : ∀ k, dBlock (.agg #[.bool vn, .slice va' vl vc, .int .i64 vE]) = some k → V.heap.size ≤ k := fun k hk => hoa.block k (hbk k hk)); rw [ext_ext] at hv; refine bodyPost_ret (by simp [results, Try.results31, go_sem, *]; rfl) rfl ?_; exact ⟨_, rfl, hv.ext_set3 z3 (fun k hk => by have := hbk2 k hk; omega) _ _ _, fun k hk => by have := hbk2 k hk; have := gw.below.size; omega, grew_set3 gw (by omega) _ _ _ _ _⟩)
    · have e2 := hlb1 h2n
      have hD1 := hid (hdif1 (by decide))
      have hD2 := hid (hdif2 (by decide))
      by_cases hz : Z < 0
      · have d8 : decide (Z < 0) = true := by simpa using hz
        have hle := hZlt hz
        clear hsame hdif1 hdif2 hn1 hn2' hla0 hla1 hlb0 hlb1 hZlt hZge
        go_enter Try.func31, Try.ntmps31
        refine seq_stop ?_
        go_wp2
        refine stop_go (fun W hW => ?_)
        have s1 : w.heap.size < W.heap.size := by rw [hW]; simp only [World.size_alloc]; omega
        have b1 : ∀ i, W.cell? ⟨w.heap.size, i, none⟩ = (#[.bool true, .slice s1' la c1', .int .i64 E] : Array Value)[i]? := by intro i; rw [hW]; go_simp
        have f1 : ∀ i, W.frozen? ⟨w.heap.size, i, none⟩ = false := by intro i; rw [hW]; go_simp
        have s2 : w.heap.size + 1 < W.heap.size := by rw [hW]; simp only [World.size_alloc]; omega
        have b2 : ∀ i, W.cell? ⟨w.heap.size + 1, i, none⟩ = (#[.bool false, .slice s2' lb c2', .int .i64 F] : Array Value)[i]? := by intro i; rw [hW]; go_simp
        have f2 : ∀ i, W.frozen? ⟨w.heap.size + 1, i, none⟩ = false := by intro i; rw [hW]; go_simp
        have s3 : w.heap.size + 1 + 1 < W.heap.size := by rw [hW]; simp only [World.size_alloc]; omega
        have b3 : ∀ i, W.cell? ⟨w.heap.size + 1 + 1, i, none⟩ = (#[.bool false, .slice none 0 0, .int .i64 0] : Array Value)[i]? := by intro i; rw [hW]; go_simp
        have f3 : ∀ i, W.frozen? ⟨w.heap.size + 1 + 1, i, none⟩ = false := by intro i; rw [hW]; go_simp
        have g0 : Grew w W := by rw [hW]; exact (((Grew.refl _).alloc _).alloc _).alloc _
        clear hW
        go_wp2_with (first | (go_at_call 121; ((with_reducible refine (hends _ (Grew.trans g0 (by (show Grew _ _; repeat (first | (with_reducible exact Grew.refl _) | (with_reducible assumption) | (with_reducible exact Grew.same_o) | (with_reducible exact Grew.app_o) | (with_reducible refine Grew.ext ?_ _ _) | (with_reducible refine Grew.alloc ?_ _) | ((with_reducible refine Grew.setCell ?_ ?_ _); rotate_left; (focus (dsimp only; first | omega | (simp only [size_ext, World.size_alloc, Array.size_append]; omega)))) | (with_reducible refine Grew.drewN ?_ _) | (with_reducible refine Grew.drew ?_)))))).mono ?_); rintro e w1 ⟨rfl, o1, k1, rfl⟩)) | (go_at_call 123; ((with_reducible refine (hsz _ (Grew.trans g0 (by (show Grew _ _; repeat (first | (with_reducible exact Grew.refl _) | (with_reducible assumption) | (with_reducible exact Grew.same_o) | (with_reducible exact Grew.app_o) | (with_reducible refine Grew.ext ?_ _ _) | (with_reducible refine Grew.alloc ?_ _) | ((with_reducible refine Grew.setCell ?_ ?_ _); rotate_left; (focus (dsimp only; first | omega | (simp only [size_ext, World.size_alloc, Array.size_append]; omega)))) | (with_reducible refine Grew.drewN ?_ _) | (with_reducible refine Grew.drew ?_)))))).mono ?_); rintro e w1 ⟨rfl, o9, k9, rfl⟩)))
        refine name_any (fun V hV => ?_)
        have gw : Grew w V := by rw [← hV]; (show Grew _ _; repeat (first | (with_reducible exact Grew.refl _) | (with_reducible assumption) | (with_reducible exact Grew.same_o) | (with_reducible exact Grew.app_o) | (with_reducible refine Grew.ext ?_ _ _) | (with_reducible refine Grew.alloc ?_ _) | ((with_reducible refine Grew.setCell ?_ ?_ _); rotate_left; (focus (dsimp only; first | omega | (simp only [size_ext, World.size_alloc, Array.size_append]; omega)))) | (with_reducible refine Grew.drewN ?_ _) | (with_reducible refine Grew.drew ?_)))
        have c10 : V.cell? ⟨w.heap.size, 0, none⟩ = some (.bool false) := by subst hV; go_simp
        have c11 : V.cell? ⟨w.heap.size, 1, none⟩ = some (.slice s2' lb c2') := by subst hV; go_simp
        have c12 : V.cell? ⟨w.heap.size, 2, none⟩ = some (.int .i64 F) := by subst hV; go_simp
        have c20 : V.cell? ⟨w.heap.size + 1, 0, none⟩ = some (.bool true) := by subst hV; go_simp
        have c21 : V.cell? ⟨w.heap.size + 1, 1, none⟩ = some (.slice s1' la c1') := by subst hV; go_simp
        have c22 : V.cell? ⟨w.heap.size + 1, 2, none⟩ = some (.int .i64 E) := by subst hV; go_simp
        have c3 : ∀ i, V.cell? ⟨w.heap.size + 1 + 1, i, none⟩ = (#[.bool false, .slice none 0 0, .int .i64 0] : Array Value)[i]? := by subst hV; intro i; go_simp
        have fz : ∀ i, V.frozen? ⟨w.heap.size + 1 + 1, i, none⟩ = false := by subst hV; intro i; go_simp
        have zV : W.heap.size ≤ V.heap.size := by subst hV; simp only [size_ext, size_setCell']; omega
        have z1 : w.heap.size < V.heap.size := by omega
        have z2 : w.heap.size + 1 < V.heap.size := by omega
        have z3 : w.heap.size + 1 + 1 < V.heap.size := by omega
        clear hV b1 b2 b3 f1 f2 f3
        go_loopw [7, 8, 11] (fun u c d wx => ∃ (k : Nat) (m : List Nat) (y : Nat), k ≤ n ∧ OwnN wx V.heap.size u m ∧ c = .int .i64 y ∧ d = .int .i64 (A + k) ∧ m.length = k ∧ Dg m ∧ y ≤ 1 ∧ dv m + ds f k = ds g k + y * 65536 ^ k ∧ ∃ o n, wx = ext V o n) (fun _ _ d _ => (A + n - intOf d).toNat)
        case atStart => exact ⟨0, [], 0, Nat.zero_le _, OwnN.nil _ _, rfl, by go_num, rfl, Dg.nil, by omega, by simp [dv, ds], _, _, ext_zero.symm⟩
        case round =>
          obtain ⟨k, m, y, hk, hO, rfl, rfl, hmk, hmD, hy, hmV, o2, m2, rfl⟩ := hrel
          have hml : m.length ≤ 600000 := by omega
          by_cases hkn : k < n
          · have h1 := fun w' p => hat2 k w' hkn (Grew.trans gw p)
            have h2 := fun w' p => hat1 k w' hkn (Grew.trans gw p)
            have hfk := hg16 k
            have hgk := hf16 k
            have hst0 := hid (sub_step0 hmk hmV)
            have hst1 := hid (fun hlt => sub_step1 hmk hmV hlt hgk hy)
            obtain ⟨X, hX⟩ : ∃ X, X = g k := ⟨_, rfl⟩
            obtain ⟨Y, hY⟩ : ∃ Y, Y = f k := ⟨_, rfl⟩
            rw [← hX] at h1 hfk hst0 hst1
            rw [← hY] at h2 hgk hst0 hst1
            have w1 : IntKind.i64.wrap ((X : Int) - Y) = (X : Int) - Y := IntWalk.i64_in _ (by omega)
            have w2 : IntKind.i64.wrap ((X : Int) - Y - y) = (X : Int) - Y - y := IntWalk.i64_in _ (by omega)
            have HM := hid hmk
            clear hmV hX hY hmk
            by_cases hlt : X < Y + y
            · have d9 : decide ((X : Int) - Y - y < 0) = true := by simp; omega
              have w3 : IntKind.i64.wrap ((X : Int) - Y - y + 65536) = ((X + 65536 - Y - y : Nat) : Int) := by rw [IntWalk.i64_in _ (by omega)]; omega
              have hst := hst1.out hlt
              obtain ⟨Z, hZ⟩ : ∃ Z, Z = X + 65536 - Y - y := ⟨_, rfl⟩
              rw [← hZ] at w3 hst
              have hZ1 : Z < 65536 := by omega
              have HST := hid hst
              clear hst hZ hst0 hst1
              go_wp2
              refine wp_region_R (Grew V) [] [(0,0), (0,1), (0,3), (0,4), (0,7), (1,2), (1,5), (0,6), (0,8), (0,9)] (by kernel_rfl) (by kernel_rfl) (fun _ _ _ _ h _ => h) (by first | exact ⟨_, _, ext_drew⟩ | exact ⟨_, _, drew_ext0⟩ | (show Grew _ _; repeat (first | (with_reducible exact Grew.refl _) | (with_reducible assumption) | (with_reducible exact Grew.same_o) | (with_reducible exact Grew.app_o) | (with_reducible refine Grew.ext ?_ _ _) | (with_reducible refine Grew.alloc ?_ _) | ((with_reducible refine Grew.setCell ?_ ?_ _); rotate_left; (focus (dsimp only; first | omega | (simp only [size_ext, World.size_alloc, Array.size_append]; omega)))) | (with_reducible refine Grew.drewN ?_ _) | (with_reducible refine Grew.drew ?_)))) ?_
              go_wp2_with (first | ((with_reducible refine wpR_id ?_); first | (refine wpR_take (v := ?_) rfl rfl ?_ ?_; rotate_left; (focus (rintro w' ⟨o', n', rfl⟩; go_simp; try with_reducible rfl)); simp only [Act.put, List.setIfInBounds_toArray, List.set_cons_zero, List.set_cons_succ]) | (refine wpR_pure (v := ?_) rfl rfl ?_ ?_; rotate_left; (focus (intro w'; go_simp; try with_reducible rfl)); simp only [Act.put, List.setIfInBounds_toArray, List.set_cons_zero, List.set_cons_succ]) | (refine wpR_takeG (v := ?_) rfl rfl rfl rfl rfl ?_ ?_; rotate_left; (focus (rintro w' ⟨o', n', rfl⟩; go_simp; try with_reducible rfl)); simp only [Act.put, List.setIfInBounds_toArray, List.set_cons_zero, List.set_cons_succ]) | (refine wpR_skip rfl rfl rfl rfl rfl rfl ?_; simp only [Act.put, List.setIfInBounds_toArray, List.set_cons_zero, List.set_cons_succ]) | (refine wpR_skipU rfl rfl rfl rfl rfl ?_; simp only [Act.put, List.setIfInBounds_toArray, List.set_cons_zero, List.set_cons_succ]) | (refine wpR_do rfl rfl (fun K hK => ?_)) | (refine wpR_doG rfl rfl rfl rfl rfl (fun K hK => ?_)) | (refine wpR_last rfl rfl (fun K hK => ?_)) | (refine wpR_nil ?_)) | ((with_reducible refine wpR_go ?_ ?_); (focus (show Grew _ _; repeat (first | (with_reducible exact Grew.refl _) | (with_reducible assumption) | (with_reducible exact Grew.same_o) | (with_reducible exact Grew.app_o) | (with_reducible refine Grew.ext ?_ _ _) | (with_reducible refine Grew.alloc ?_ _) | ((with_reducible refine Grew.setCell ?_ ?_ _); rotate_left; (focus (dsimp only; first | omega | (simp only [size_ext, World.size_alloc, Array.size_append]; omega)))) | (with_reducible refine Grew.drewN ?_ _) | (with_reducible refine Grew.drew ?_))))) | ((with_reducible refine upon_id ?_); refine upon_fop rfl (by assumption) (by assumption) ?_; intro rr nn hr) | (go_at_call 122; ((with_reducible refine (h1 _ (by (show Grew _ _; repeat (first | (with_reducible exact Grew.refl _) | (with_reducible assumption) | (with_reducible exact Grew.same_o) | (with_reducible exact Grew.app_o) | (with_reducible refine Grew.ext ?_ _ _) | (with_reducible refine Grew.alloc ?_ _) | ((with_reducible refine Grew.setCell ?_ ?_ _); rotate_left; (focus (dsimp only; first | omega | (simp only [size_ext, World.size_alloc, Array.size_append]; omega)))) | (with_reducible refine Grew.drewN ?_ _) | (with_reducible refine Grew.drew ?_))))).mono ?_); rintro e w1 ⟨rfl, oc, kc, rfl⟩)) | (go_at_call 122; ((with_reducible refine (h2 _ (by (show Grew _ _; repeat (first | (with_reducible exact Grew.refl _) | (with_reducible assumption) | (with_reducible exact Grew.same_o) | (with_reducible exact Grew.app_o) | (with_reducible refine Grew.ext ?_ _ _) | (with_reducible refine Grew.alloc ?_ _) | ((with_reducible refine Grew.setCell ?_ ?_ _); rotate_left; (focus (dsimp only; first | omega | (simp only [size_ext, World.size_alloc, Array.size_append]; omega)))) | (with_reducible refine Grew.drewN ?_ _) | (with_reducible refine Grew.drew ?_))))).mono ?_); rintro e w1 ⟨rfl, od, kd, rfl⟩)) | (at_builtin; refine append1_n iundN iinfoN rfl (W := V) (l := m) (d := Z) ⟨_, _, rfl⟩ ?_ ?_ (by omega) _ _ rfl rfl rfl ?_ rfl ?_; (focus (first | exact hO | exact hO.grew (by (show Grew _ _; repeat (first | (with_reducible exact Grew.refl _) | (with_reducible assumption) | (with_reducible exact Grew.same_o) | (with_reducible exact Grew.app_o) | (with_reducible refine Grew.ext ?_ _ _) | (with_reducible refine Grew.alloc ?_ _) | ((with_reducible refine Grew.setCell ?_ ?_ _); rotate_left; (focus (dsimp only; first | omega | (simp only [size_ext, World.size_alloc, Array.size_append]; omega)))) | (with_reducible refine Grew.drewN ?_ _) | (with_reducible refine Grew.drew ?_)))))); (focus (first | rfl | omega)); (focus (first | rfl | (simp only [size_ext, World.size_alloc, Array.size_append]; done) | (simp only [size_ext, World.size_alloc, Array.size_append]; omega))); intro va oa na hoa))
              go_roundw
              case rel => exact ⟨k + 1, m ++ [Z], 1, hkn, hoa, rfl, by go_num, by simp; exact HM.out, hmD.append (Dg.one hZ1), by omega, HST.out, _, _, rfl⟩
              case measure => simp [intOf]; omega
            · have d9 : decide ((X : Int) - Y - y < 0) = false := by simp; omega
              have hst := hst0.out (by omega)
              obtain ⟨Z, hZ⟩ : ∃ Z, Z = X - Y - y := ⟨_, rfl⟩
              have w3 : (X : Int) - Y - y = (Z : Int) := by omega
              rw [← hZ] at hst
              rw [w3] at w2 d9
              have w4 : IntKind.i64.wrap ((X : Int) - Y - y) = (Z : Int) := by rw [w3]; exact w2
              have hZ1 : Z < 65536 := by omega
              have HST := hid hst
              clear hst hZ hst0 hst1 w2 w3
              go_wp2
              refine wp_region_R (Grew V) [] [(0,0), (0,1), (0,3), (0,4), (0,7), (1,2), (1,5), (0,6), (0,8), (0,9)] (by kernel_rfl) (by kernel_rfl) (fun _ _ _ _ h _ => h) (by first | exact ⟨_, _, ext_drew⟩ | exact ⟨_, _, drew_ext0⟩ | (show Grew _ _; repeat (first | (with_reducible exact Grew.refl _) | (with_reducible assumption) | (with_reducible exact Grew.same_o) | (with_reducible exact Grew.app_o) | (with_reducible refine Grew.ext ?_ _ _) | (with_reducible refine Grew.alloc ?_ _) | ((with_reducible refine Grew.setCell ?_ ?_ _); rotate_left; (focus (dsimp only; first | omega | (simp only [size_ext, World.size_alloc, Array.size_append]; omega)))) | (with_reducible refine Grew.drewN ?_ _) | (with_reducible refine Grew.drew ?_)))) ?_
              go_wp2_with (first | ((with_reducible refine wpR_id ?_); first | (refine wpR_take (v := ?_) rfl rfl ?_ ?_; rotate_left; (focus (rintro w' ⟨o', n', rfl⟩; go_simp; try with_reducible rfl)); simp only [Act.put, List.setIfInBounds_toArray, List.set_cons_zero, List.set_cons_succ]) | (refine wpR_pure (v := ?_) rfl rfl ?_ ?_; rotate_left; (focus (intro w'; go_simp; try with_reducible rfl)); simp only [Act.put, List.setIfInBounds_toArray, List.set_cons_zero, List.set_cons_succ]) | (refine wpR_takeG (v := ?_) rfl rfl rfl rfl rfl ?_ ?_; rotate_left; (focus (rintro w' ⟨o', n', rfl⟩; go_simp; try with_reducible rfl)); simp only [Act.put, List.setIfInBounds_toArray, List.set_cons_zero, List.set_cons_succ]) | (refine wpR_skip rfl rfl rfl rfl rfl rfl ?_; simp only [Act.put, List.setIfInBounds_toArray, List.set_cons_zero, List.set_cons_succ]) | (refine wpR_skipU rfl rfl rfl rfl rfl ?_; simp only [Act.put, List.setIfInBounds_toArray, List.set_cons_zero, List.set_cons_succ]) | (refine wpR_do rfl rfl (fun K hK => ?_)) | (refine wpR_doG rfl rfl rfl rfl rfl (fun K hK => ?_)) | (refine wpR_last rfl rfl (fun K hK => ?_)) | (refine wpR_nil ?_)) | ((with_reducible refine wpR_go ?_ ?_); (focus (show Grew _ _; repeat (first | (with_reducible exact Grew.refl _) | (with_reducible assumption) | (with_reducible exact Grew.same_o) | (with_reducible exact Grew.app_o) | (with_reducible refine Grew.ext ?_ _ _) | (with_reducible refine Grew.alloc ?_ _) | ((with_reducible refine Grew.setCell ?_ ?_ _); rotate_left; (focus (dsimp only; first | omega | (simp only [size_ext, World.size_alloc, Array.size_append]; omega)))) | (with_reducible refine Grew.drewN ?_ _) | (with_reducible refine Grew.drew ?_))))) | ((with_reducible refine upon_id ?_); refine upon_fop rfl (by assumption) (by assumption) ?_; intro rr nn hr) | (go_at_call 122; ((with_reducible refine (h1 _ (by (show Grew _ _; repeat (first | (with_reducible exact Grew.refl _) | (with_reducible assumption) | (with_reducible exact Grew.same_o) | (with_reducible exact Grew.app_o) | (with_reducible refine Grew.ext ?_ _ _) | (with_reducible refine Grew.alloc ?_ _) | ((with_reducible refine Grew.setCell ?_ ?_ _); rotate_left; (focus (dsimp only; first | omega | (simp only [size_ext, World.size_alloc, Array.size_append]; omega)))) | (with_reducible refine Grew.drewN ?_ _) | (with_reducible refine Grew.drew ?_))))).mono ?_); rintro e w1 ⟨rfl, oc, kc, rfl⟩)) | (go_at_call 122; ((with_reducible refine (h2 _ (by (show Grew _ _; repeat (first | (with_reducible exact Grew.refl _) | (with_reducible assumption) | (with_reducible exact Grew.same_o) | (with_reducible exact Grew.app_o) | (with_reducible refine Grew.ext ?_ _ _) | (with_reducible refine Grew.alloc ?_ _) | ((with_reducible refine Grew.setCell ?_ ?_ _); rotate_left; (focus (dsimp only; first | omega | (simp only [size_ext, World.size_alloc, Array.size_append]; omega)))) | (with_reducible refine Grew.drewN ?_ _) | (with_reducible refine Grew.drew ?_))))).mono ?_); rintro e w1 ⟨rfl, od, kd, rfl⟩)) | (at_builtin; refine append1_n iundN iinfoN rfl (W := V) (l := m) (d := Z) ⟨_, _, rfl⟩ ?_ ?_ (by omega) _ _ rfl rfl rfl ?_ rfl ?_; (focus (first | exact hO | exact hO.grew (by (show Grew _ _; repeat (first | (with_reducible exact Grew.refl _) | (with_reducible assumption) | (with_reducible exact Grew.same_o) | (with_reducible exact Grew.app_o) | (with_reducible refine Grew.ext ?_ _ _) | (with_reducible refine Grew.alloc ?_ _) | ((with_reducible refine Grew.setCell ?_ ?_ _); rotate_left; (focus (dsimp only; first | omega | (simp only [size_ext, World.size_alloc, Array.size_append]; omega)))) | (with_reducible refine Grew.drewN ?_ _) | (with_reducible refine Grew.drew ?_)))))); (focus (first | rfl | omega)); (focus (first | rfl | (simp only [size_ext, World.size_alloc, Array.size_append]; done) | (simp only [size_ext, World.size_alloc, Array.size_append]; omega))); intro va oa na hoa))
              go_roundw
              case rel => exact ⟨k + 1, m ++ [Z], 0, hkn, hoa, rfl, by go_num, by simp; exact HM.out, hmD.append (Dg.one hZ1), by omega, HST.out, _, _, rfl⟩
              case measure => simp [intOf]; omega
          · have e : k = n := by omega
            subst e
            have hfin := sub_end hmk hmD hmV hle
            have HS2 := hid (show dat false (dv m) (16 * A) = r from hD2.out _ hfin)
            have hlf : m.length ≤ k + 1 := by omega
            clear hfin hmV hmk
            have hns := hO.ns
            go_wp2_with (first | (go_at_call 120; ((with_reducible refine (hmade _ _ m _ hns hmD hlf HS2.out).mono ?_); rintro e w1 ⟨v, rfl, hv, hbk, oz, nz, rfl⟩; obtain ⟨vn, va', vl, vc, vE, rfl⟩ := hv.shape)))
            ((have hbk2 : ∀ k, dBlock (.agg #[.bool vn, .slice va' vl vc, .int .i64 vE]) = some k → V.heap.size ≤ k := fun k hk => hO.block k (hbk k hk)); rw [ext_ext] at hv; refine bodyPost_ret (by simp [results, Try.results31, go_sem, *]; rfl) rfl ?_; exact ⟨_, rfl, hv.ext_set3 z3 (fun k hk => by have := hbk2 k hk; omega) _ _ _, fun k hk => by have := hbk2 k hk; have := gw.below.size; omega, grew_set3 gw (by omega) _ _ _ _ _⟩)
      · have d8 : decide (Z < 0) = false := by simpa using hz
        have hle := hZge hz
        clear hsame hdif1 hdif2 hn1 hn2' hla0 hla1 hlb0 hlb1 hZlt hZge
        go_enter Try.func31, Try.ntmps31
        refine seq_stop ?_
        go_wp2
        refine stop_go (fun W hW => ?_)
        have s1 : w.heap.size < W.heap.size := by rw [hW]; simp only [World.size_alloc]; omega
        have b1 : ∀ i, W.cell? ⟨w.heap.size, i, none⟩ = (#[.bool true, .slice s1' la c1', .int .i64 E] : Array Value)[i]? := by intro i; rw [hW]; go_simp
        have f1 : ∀ i, W.frozen? ⟨w.heap.size, i, none⟩ = false := by intro i; rw [hW]; go_simp
        have s2 : w.heap.size + 1 < W.heap.size := by rw [hW]; simp only [World.size_alloc]; omega
        have b2 : ∀ i, W.cell? ⟨w.heap.size + 1, i, none⟩ = (#[.bool false, .slice s2' lb c2', .int .i64 F] : Array Value)[i]? := by intro i; rw [hW]; go_simp
        have f2 : ∀ i, W.frozen? ⟨w.heap.size + 1, i, none⟩ = false := by intro i; rw [hW]; go_simp
        have s3 : w.heap.size + 1 + 1 < W.heap.size := by rw [hW]; simp only [World.size_alloc]; omega
        have b3 : ∀ i, W.cell? ⟨w.heap.size + 1 + 1, i, none⟩ = (#[.bool false, .slice none 0 0, .int .i64 0] : Array Value)[i]? := by intro i; rw [hW]; go_simp
        have f3 : ∀ i, W.frozen? ⟨w.heap.size + 1 + 1, i, none⟩ = false := by intro i; rw [hW]; go_simp
        have g0 : Grew w W := by rw [hW]; exact (((Grew.refl _).alloc _).alloc _).alloc _
        clear hW
        go_wp2_with (first | (go_at_call 121; ((with_reducible refine (hends _ (Grew.trans g0 (by (show Grew _ _; repeat (first | (with_reducible exact Grew.refl _) | (with_reducible assumption) | (with_reducible exact Grew.same_o) | (with_reducible exact Grew.app_o) | (with_reducible refine Grew.ext ?_ _ _) | (with_reducible refine Grew.alloc ?_ _) | ((with_reducible refine Grew.setCell ?_ ?_ _); rotate_left; (focus (dsimp only; first | omega | (simp only [size_ext, World.size_alloc, Array.size_append]; omega)))) | (with_reducible refine Grew.drewN ?_ _) | (with_reducible refine Grew.drew ?_)))))).mono ?_); rintro e w1 ⟨rfl, o1, k1, rfl⟩)) | (go_at_call 123; ((with_reducible refine (hsz _ (Grew.trans g0 (by (show Grew _ _; repeat (first | (with_reducible exact Grew.refl _) | (with_reducible assumption) | (with_reducible exact Grew.same_o) | (with_reducible exact Grew.app_o) | (with_reducible refine Grew.ext ?_ _ _) | (with_reducible refine Grew.alloc ?_ _) | ((with_reducible refine Grew.setCell ?_ ?_ _); rotate_left; (focus (dsimp only; first | omega | (simp only [size_ext, World.size_alloc, Array.size_append]; omega)))) | (with_reducible refine Grew.drewN ?_ _) | (with_reducible refine Grew.drew ?_)))))).mono ?_); rintro e w1 ⟨rfl, o9, k9, rfl⟩)))
        refine name_any (fun V hV => ?_)
        have gw : Grew w V := by rw [← hV]; (show Grew _ _; repeat (first | (with_reducible exact Grew.refl _) | (with_reducible assumption) | (with_reducible exact Grew.same_o) | (with_reducible exact Grew.app_o) | (with_reducible refine Grew.ext ?_ _ _) | (with_reducible refine Grew.alloc ?_ _) | ((with_reducible refine Grew.setCell ?_ ?_ _); rotate_left; (focus (dsimp only; first | omega | (simp only [size_ext, World.size_alloc, Array.size_append]; omega)))) | (with_reducible refine Grew.drewN ?_ _) | (with_reducible refine Grew.drew ?_)))
        have c10 : V.cell? ⟨w.heap.size, 0, none⟩ = some (.bool true) := by subst hV; go_simp
        have c11 : V.cell? ⟨w.heap.size, 1, none⟩ = some (.slice s1' la c1') := by subst hV; go_simp
        have c12 : V.cell? ⟨w.heap.size, 2, none⟩ = some (.int .i64 E) := by subst hV; go_simp
        have c20 : V.cell? ⟨w.heap.size + 1, 0, none⟩ = some (.bool false) := by subst hV; go_simp
        have c21 : V.cell? ⟨w.heap.size + 1, 1, none⟩ = some (.slice s2' lb c2') := by subst hV; go_simp
        have c22 : V.cell? ⟨w.heap.size + 1, 2, none⟩ = some (.int .i64 F) := by subst hV; go_simp
        have c3 : ∀ i, V.cell? ⟨w.heap.size + 1 + 1, i, none⟩ = (#[.bool false, .slice none 0 0, .int .i64 0] : Array Value)[i]? := by subst hV; intro i; go_simp
        have fz : ∀ i, V.frozen? ⟨w.heap.size + 1 + 1, i, none⟩ = false := by subst hV; intro i; go_simp
        have zV : W.heap.size ≤ V.heap.size := by subst hV; simp only [size_ext, size_setCell']; omega
        have z1 : w.heap.size < V.heap.size := by omega
        have z2 : w.heap.size + 1 < V.heap.size := by omega
        have z3 : w.heap.size + 1 + 1 < V.heap.size := by omega
        clear hV b1 b2 b3 f1 f2 f3
        go_loopw [7, 8, 11] (fun u c d wx => ∃ (k : Nat) (m : List Nat) (y : Nat), k ≤ n ∧ OwnN wx V.heap.size u m ∧ c = .int .i64 y ∧ d = .int .i64 (A + k) ∧ m.length = k ∧ Dg m ∧ y ≤ 1 ∧ dv m + ds g k = ds f k + y * 65536 ^ k ∧ ∃ o n, wx = ext V o n) (fun _ _ d _ => (A + n - intOf d).toNat)
        case atStart => exact ⟨0, [], 0, Nat.zero_le _, OwnN.nil _ _, rfl, by go_num, rfl, Dg.nil, by omega, by simp [dv, ds], _, _, ext_zero.symm⟩
        case round =>
          obtain ⟨k, m, y, hk, hO, rfl, rfl, hmk, hmD, hy, hmV, o2, m2, rfl⟩ := hrel
          have hml : m.length ≤ 600000 := by omega
          by_cases hkn : k < n
          · have h1 := fun w' p => hat1 k w' hkn (Grew.trans gw p)
            have h2 := fun w' p => hat2 k w' hkn (Grew.trans gw p)
            have hfk := hf16 k
            have hgk := hg16 k
            have hst0 := hid (sub_step0 hmk hmV)
            have hst1 := hid (fun hlt => sub_step1 hmk hmV hlt hgk hy)
            obtain ⟨X, hX⟩ : ∃ X, X = f k := ⟨_, rfl⟩
            obtain ⟨Y, hY⟩ : ∃ Y, Y = g k := ⟨_, rfl⟩
            rw [← hX] at h1 hfk hst0 hst1
            rw [← hY] at h2 hgk hst0 hst1
            have w1 : IntKind.i64.wrap ((X : Int) - Y) = (X : Int) - Y := IntWalk.i64_in _ (by omega)
            have w2 : IntKind.i64.wrap ((X : Int) - Y - y) = (X : Int) - Y - y := IntWalk.i64_in _ (by omega)
            have HM := hid hmk
            clear hmV hX hY hmk
            by_cases hlt : X < Y + y
            · have d9 : decide ((X : Int) - Y - y < 0) = true := by simp; omega
              have w3 : IntKind.i64.wrap ((X : Int) - Y - y + 65536) = ((X + 65536 - Y - y : Nat) : Int) := by rw [IntWalk.i64_in _ (by omega)]; omega
              have hst := hst1.out hlt
              obtain ⟨Z, hZ⟩ : ∃ Z, Z = X + 65536 - Y - y := ⟨_, rfl⟩
              rw [← hZ] at w3 hst
              have hZ1 : Z < 65536 := by omega
              have HST := hid hst
              clear hst hZ hst0 hst1
              go_wp2
              refine wp_region_R (Grew V) [] [(0,0), (0,1), (0,3), (0,4), (0,7), (1,2), (1,5), (0,6), (0,8), (0,9)] (by kernel_rfl) (by kernel_rfl) (fun _ _ _ _ h _ => h) (by first | exact ⟨_, _, ext_drew⟩ | exact ⟨_, _, drew_ext0⟩ | (show Grew _ _; repeat (first | (with_reducible exact Grew.refl _) | (with_reducible assumption) | (with_reducible exact Grew.same_o) | (with_reducible exact Grew.app_o) | (with_reducible refine Grew.ext ?_ _ _) | (with_reducible refine Grew.alloc ?_ _) | ((with_reducible refine Grew.setCell ?_ ?_ _); rotate_left; (focus (dsimp only; first | omega | (simp only [size_ext, World.size_alloc, Array.size_append]; omega)))) | (with_reducible refine Grew.drewN ?_ _) | (with_reducible refine Grew.drew ?_)))) ?_
              go_wp2_with (first | ((with_reducible refine wpR_id ?_); first | (refine wpR_take (v := ?_) rfl rfl ?_ ?_; rotate_left; (focus (rintro w' ⟨o', n', rfl⟩; go_simp; try with_reducible rfl)); simp only [Act.put, List.setIfInBounds_toArray, List.set_cons_zero, List.set_cons_succ]) | (refine wpR_pure (v := ?_) rfl rfl ?_ ?_; rotate_left; (focus (intro w'; go_simp; try with_reducible rfl)); simp only [Act.put, List.setIfInBounds_toArray, List.set_cons_zero, List.set_cons_succ]) | (refine wpR_takeG (v := ?_) rfl rfl rfl rfl rfl ?_ ?_; rotate_left; (focus (rintro w' ⟨o', n', rfl⟩; go_simp; try with_reducible rfl)); simp only [Act.put, List.setIfInBounds_toArray, List.set_cons_zero, List.set_cons_succ]) | (refine wpR_skip rfl rfl rfl rfl rfl rfl ?_; simp only [Act.put, List.setIfInBounds_toArray, List.set_cons_zero, List.set_cons_succ]) | (refine wpR_skipU rfl rfl rfl rfl rfl ?_; simp only [Act.put, List.setIfInBounds_toArray, List.set_cons_zero, List.set_cons_succ]) | (refine wpR_do rfl rfl (fun K hK => ?_)) | (refine wpR_doG rfl rfl rfl rfl rfl (fun K hK => ?_)) | (refine wpR_last rfl rfl (fun K hK => ?_)) | (refine wpR_nil ?_)) | ((with_reducible refine wpR_go ?_ ?_); (focus (show Grew _ _; repeat (first | (with_reducible exact Grew.refl _) | (with_reducible assumption) | (with_reducible exact Grew.same_o) | (with_reducible exact Grew.app_o) | (with_reducible refine Grew.ext ?_ _ _) | (with_reducible refine Grew.alloc ?_ _) | ((with_reducible refine Grew.setCell ?_ ?_ _); rotate_left; (focus (dsimp only; first | omega | (simp only [size_ext, World.size_alloc, Array.size_append]; omega)))) | (with_reducible refine Grew.drewN ?_ _) | (with_reducible refine Grew.drew ?_))))) | ((with_reducible refine upon_id ?_); refine upon_fop rfl (by assumption) (by assumption) ?_; intro rr nn hr) | (go_at_call 122; ((with_reducible refine (h1 _ (by (show Grew _ _; repeat (first | (with_reducible exact Grew.refl _) | (with_reducible assumption) | (with_reducible exact Grew.same_o) | (with_reducible exact Grew.app_o) | (with_reducible refine Grew.ext ?_ _ _) | (with_reducible refine Grew.alloc ?_ _) | ((with_reducible refine Grew.setCell ?_ ?_ _); rotate_left; (focus (dsimp only; first | omega | (simp only [size_ext, World.size_alloc, Array.size_append]; omega)))) | (with_reducible refine Grew.drewN ?_ _) | (with_reducible refine Grew.drew ?_))))).mono ?_); rintro e w1 ⟨rfl, oc, kc, rfl⟩)) | (go_at_call 122; ((with_reducible refine (h2 _ (by (show Grew _ _; repeat (first | (with_reducible exact Grew.refl _) | (with_reducible assumption) | (with_reducible exact Grew.same_o) | (with_reducible exact Grew.app_o) | (with_reducible refine Grew.ext ?_ _ _) | (with_reducible refine Grew.alloc ?_ _) | ((with_reducible refine Grew.setCell ?_ ?_ _); rotate_left; (focus (dsimp only; first | omega | (simp only [size_ext, World.size_alloc, Array.size_append]; omega)))) | (with_reducible refine Grew.drewN ?_ _) | (with_reducible refine Grew.drew ?_))))).mono ?_); rintro e w1 ⟨rfl, od, kd, rfl⟩)) | (at_builtin; refine append1_n iundN iinfoN rfl (W := V) (l := m) (d := Z) ⟨_, _, rfl⟩ ?_ ?_ (by omega) _ _ rfl rfl rfl ?_ rfl ?_; (focus (first | exact hO | exact hO.grew (by (show Grew _ _; repeat (first | (with_reducible exact Grew.refl _) | (with_reducible assumption) | (with_reducible exact Grew.same_o) | (with_reducible exact Grew.app_o) | (with_reducible refine Grew.ext ?_ _ _) | (with_reducible refine Grew.alloc ?_ _) | ((with_reducible refine Grew.setCell ?_ ?_ _); rotate_left; (focus (dsimp only; first | omega | (simp only [size_ext, World.size_alloc, Array.size_append]; omega)))) | (with_reducible refine Grew.drewN ?_ _) | (with_reducible refine Grew.drew ?_)))))); (focus (first | rfl | omega)); (focus (first | rfl | (simp only [size_ext, World.size_alloc, Array.size_append]; done) | (simp only [size_ext, World.size_alloc, Array.size_append]; omega))); intro va oa na hoa))
              go_roundw
              case rel => exact ⟨k + 1, m ++ [Z], 1, hkn, hoa, rfl, by go_num, by simp; exact HM.out, hmD.append (Dg.one hZ1), by omega, HST.out, _, _, rfl⟩
              case measure => simp [intOf]; omega
            · have d9 : decide ((X : Int) - Y - y < 0) = false := by simp; omega
              have hst := hst0.out (by omega)
              obtain ⟨Z, hZ⟩ : ∃ Z, Z = X - Y - y := ⟨_, rfl⟩
              have w3 : (X : Int) - Y - y = (Z : Int) := by omega
              rw [← hZ] at hst
              rw [w3] at w2 d9
              have w4 : IntKind.i64.wrap ((X : Int) - Y - y) = (Z : Int) := by rw [w3]; exact w2
              have hZ1 : Z < 65536 := by omega
              have HST := hid hst
              clear hst hZ hst0 hst1 w2 w3
              go_wp2
              refine wp_region_R (Grew V) [] [(0,0), (0,1), (0,3), (0,4), (0,7), (1,2), (1,5), (0,6), (0,8), (0,9)] (by kernel_rfl) (by kernel_rfl) (fun _ _ _ _ h _ => h) (by first | exact ⟨_, _, ext_drew⟩ | exact ⟨_, _, drew_ext0⟩ | (show Grew _ _; repeat (first | (with_reducible exact Grew.refl _) | (with_reducible assumption) | (with_reducible exact Grew.same_o) | (with_reducible exact Grew.app_o) | (with_reducible refine Grew.ext ?_ _ _) | (with_reducible refine Grew.alloc ?_ _) | ((with_reducible refine Grew.setCell ?_ ?_ _); rotate_left; (focus (dsimp only; first | omega | (simp only [size_ext, World.size_alloc, Array.size_append]; omega)))) | (with_reducible refine Grew.drewN ?_ _) | (with_reducible refine Grew.drew ?_)))) ?_
              go_wp2_with (first | ((with_reducible refine wpR_id ?_); first | (refine wpR_take (v := ?_) rfl rfl ?_ ?_; rotate_left; (focus (rintro w' ⟨o', n', rfl⟩; go_simp; try with_reducible rfl)); simp only [Act.put, List.setIfInBounds_toArray, List.set_cons_zero, List.set_cons_succ]) | (refine wpR_pure (v := ?_) rfl rfl ?_ ?_; rotate_left; (focus (intro w'; go_simp; try with_reducible rfl)); simp only [Act.put, List.setIfInBounds_toArray, List.set_cons_zero, List.set_cons_succ]) | (refine wpR_takeG (v := ?_) rfl rfl rfl rfl rfl ?_ ?_; rotate_left; (focus (rintro w' ⟨o', n', rfl⟩; go_simp; try with_reducible rfl)); simp only [Act.put, List.setIfInBounds_toArray, List.set_cons_zero, List.set_cons_succ]) | (refine wpR_skip rfl rfl rfl rfl rfl rfl ?_; simp only [Act.put, List.setIfInBounds_toArray, List.set_cons_zero, List.set_cons_succ]) | (refine wpR_skipU rfl rfl rfl rfl rfl ?_; simp only [Act.put, List.setIfInBounds_toArray, List.set_cons_zero, List.set_cons_succ]) | (refine wpR_do rfl rfl (fun K hK => ?_)) | (refine wpR_doG rfl rfl rfl rfl rfl (fun K hK => ?_)) | (refine wpR_last rfl rfl (fun K hK => ?_)) | (refine wpR_nil ?_)) | ((with_reducible refine wpR_go ?_ ?_); (focus (show Grew _ _; repeat (first | (with_reducible exact Grew.refl _) | (with_reducible assumption) | (with_reducible exact Grew.same_o) | (with_reducible exact Grew.app_o) | (with_reducible refine Grew.ext ?_ _ _) | (with_reducible refine Grew.alloc ?_ _) | ((with_reducible refine Grew.setCell ?_ ?_ _); rotate_left; (focus (dsimp only; first | omega | (simp only [size_ext, World.size_alloc, Array.size_append]; omega)))) | (with_reducible refine Grew.drewN ?_ _) | (with_reducible refine Grew.drew ?_))))) | ((with_reducible refine upon_id ?_); refine upon_fop rfl (by assumption) (by assumption) ?_; intro rr nn hr) | (go_at_call 122; ((with_reducible refine (h1 _ (by (show Grew _ _; repeat (first | (with_reducible exact Grew.refl _) | (with_reducible assumption) | (with_reducible exact Grew.same_o) | (with_reducible exact Grew.app_o) | (with_reducible refine Grew.ext ?_ _ _) | (with_reducible refine Grew.alloc ?_ _) | ((with_reducible refine Grew.setCell ?_ ?_ _); rotate_left; (focus (dsimp only; first | omega | (simp only [size_ext, World.size_alloc, Array.size_append]; omega)))) | (with_reducible refine Grew.drewN ?_ _) | (with_reducible refine Grew.drew ?_))))).mono ?_); rintro e w1 ⟨rfl, oc, kc, rfl⟩)) | (go_at_call 122; ((with_reducible refine (h2 _ (by (show Grew _ _; repeat (first | (with_reducible exact Grew.refl _) | (with_reducible assumption) | (with_reducible exact Grew.same_o) | (with_reducible exact Grew.app_o) | (with_reducible refine Grew.ext ?_ _ _) | (with_reducible refine Grew.alloc ?_ _) | ((with_reducible refine Grew.setCell ?_ ?_ _); rotate_left; (focus (dsimp only; first | omega | (simp only [size_ext, World.size_alloc, Array.size_append]; omega)))) | (with_reducible refine Grew.drewN ?_ _) | (with_reducible refine Grew.drew ?_))))).mono ?_); rintro e w1 ⟨rfl, od, kd, rfl⟩)) | (at_builtin; refine append1_n iundN iinfoN rfl (W := V) (l := m) (d := Z) ⟨_, _, rfl⟩ ?_ ?_ (by omega) _ _ rfl rfl rfl ?_ rfl ?_; (focus (first | exact hO | exact hO.grew (by (show Grew _ _; repeat (first | (with_reducible exact Grew.refl _) | (with_reducible assumption) | (with_reducible exact Grew.same_o) | (with_reducible exact Grew.app_o) | (with_reducible refine Grew.ext ?_ _ _) | (with_reducible refine Grew.alloc ?_ _) | ((with_reducible refine Grew.setCell ?_ ?_ _); rotate_left; (focus (dsimp only; first | omega | (simp only [size_ext, World.size_alloc, Array.size_append]; omega)))) | (with_reducible refine Grew.drewN ?_ _) | (with_reducible refine Grew.drew ?_)))))); (focus (first | rfl | omega)); (focus (first | rfl | (simp only [size_ext, World.size_alloc, Array.size_append]; done) | (simp only [size_ext, World.size_alloc, Array.size_append]; omega))); intro va oa na hoa))
              go_roundw
              case rel => exact ⟨k + 1, m ++ [Z], 0, hkn, hoa, rfl, by go_num, by simp; exact HM.out, hmD.append (Dg.one hZ1), by omega, HST.out, _, _, rfl⟩
              case measure => simp [intOf]; omega
          · have e : k = n := by omega
            subst e
            have hfin := sub_end hmk hmD hmV hle
            have HS2 := hid (show dat true (dv m) (16 * A) = r from hD1.out _ hfin)
            have hlf : m.length ≤ k + 1 := by omega
            clear hfin hmV hmk
            have hns := hO.ns
            go_wp2_with (first | (go_at_call 120; ((with_reducible refine (hmade _ _ m _ hns hmD hlf HS2.out).mono ?_); rintro e w1 ⟨v, rfl, hv, hbk, oz, nz, rfl⟩; obtain ⟨vn, va', vl, vc, vE, rfl⟩ := hv.shape)))
            ((have hbk2 : ∀ k, dBlock (.agg #[.bool vn, .slice va' vl vc, .int .i64 vE]) = some k → V.heap.size ≤ k := fun k hk => hO.block k (hbk k hk)); rw [ext_ext] at hv; refine bodyPost_ret (by simp [results, Try.results31, go_sem, *]; rfl) rfl ?_; exact ⟨_, rfl, hv.ext_set3 z3 (fun k hk => by have := hbk2 k hk; omega) _ _ _, fun k hk => by have := hbk2 k hk; have := gw.below.size; omega, grew_set3 gw (by omega) _ _ _ _ _⟩)
  · have hS := hsame (.inl rfl)
    clear hsame hdif1 hdif2 hn1 hn2' hla0 hla1 hlb0 hlb1 hZlt hZge
    go_enter Try.func31, Try.ntmps31
    refine seq_stop ?_
    go_wp2
    refine stop_go (fun W hW => ?_)
    have s1 : w.heap.size < W.heap.size := by rw [hW]; simp only [World.size_alloc]; omega
    have b1 : ∀ i, W.cell? ⟨w.heap.size, i, none⟩ = (#[.bool true, .slice s1' la c1', .int .i64 E] : Array Value)[i]? := by intro i; rw [hW]; go_simp
    have f1 : ∀ i, W.frozen? ⟨w.heap.size, i, none⟩ = false := by intro i; rw [hW]; go_simp
    have s2 : w.heap.size + 1 < W.heap.size := by rw [hW]; simp only [World.size_alloc]; omega
    have b2 : ∀ i, W.cell? ⟨w.heap.size + 1, i, none⟩ = (#[.bool true, .slice s2' lb c2', .int .i64 F] : Array Value)[i]? := by intro i; rw [hW]; go_simp
    have f2 : ∀ i, W.frozen? ⟨w.heap.size + 1, i, none⟩ = false := by intro i; rw [hW]; go_simp
    have s3 : w.heap.size + 1 + 1 < W.heap.size := by rw [hW]; simp only [World.size_alloc]; omega
    have b3 : ∀ i, W.cell? ⟨w.heap.size + 1 + 1, i, none⟩ = (#[.bool false, .slice none 0 0, .int .i64 0] : Array Value)[i]? := by intro i; rw [hW]; go_simp
    have f3 : ∀ i, W.frozen? ⟨w.heap.size + 1 + 1, i, none⟩ = false := by intro i; rw [hW]; go_simp
    have g0 : Grew w W := by rw [hW]; exact (((Grew.refl _).alloc _).alloc _).alloc _
    clear hW
    go_wp2_with (first | (go_at_call 121; ((with_reducible refine (hends _ (Grew.trans g0 (by (show Grew _ _; repeat (first | (with_reducible exact Grew.refl _) | (with_reducible assumption) | (with_reducible exact Grew.same_o) | (with_reducible exact Grew.app_o) | (with_reducible refine Grew.ext ?_ _ _) | (with_reducible refine Grew.alloc ?_ _) | ((with_reducible refine Grew.setCell ?_ ?_ _); rotate_left; (focus (dsimp only; first | omega | (simp only [size_ext, World.size_alloc, Array.size_append]; omega)))) | (with_reducible refine Grew.drewN ?_ _) | (with_reducible refine Grew.drew ?_)))))).mono ?_); rintro e w1 ⟨rfl, o1, k1, rfl⟩)) | (go_at_call 123; ((with_reducible refine (hsz _ (Grew.trans g0 (by (show Grew _ _; repeat (first | (with_reducible exact Grew.refl _) | (with_reducible assumption) | (with_reducible exact Grew.same_o) | (with_reducible exact Grew.app_o) | (with_reducible refine Grew.ext ?_ _ _) | (with_reducible refine Grew.alloc ?_ _) | ((with_reducible refine Grew.setCell ?_ ?_ _); rotate_left; (focus (dsimp only; first | omega | (simp only [size_ext, World.size_alloc, Array.size_append]; omega)))) | (with_reducible refine Grew.drewN ?_ _) | (with_reducible refine Grew.drew ?_)))))).mono ?_); rintro e w1 ⟨rfl, o9, k9, rfl⟩)))
    refine name_any (fun V hV => ?_)
    have gV : Grew W V := by rw [← hV]; (show Grew _ _; repeat (first | (with_reducible exact Grew.refl _) | (with_reducible assumption) | (with_reducible exact Grew.same_o) | (with_reducible exact Grew.app_o) | (with_reducible refine Grew.ext ?_ _ _) | (with_reducible refine Grew.alloc ?_ _) | ((with_reducible refine Grew.setCell ?_ ?_ _); rotate_left; (focus (dsimp only; first | omega | (simp only [size_ext, World.size_alloc, Array.size_append]; omega)))) | (with_reducible refine Grew.drewN ?_ _) | (with_reducible refine Grew.drew ?_)))
    have c1 : ∀ i, V.cell? ⟨w.heap.size, i, none⟩ = (#[.bool true, .slice s1' la c1', .int .i64 E] : Array Value)[i]? := fun i => (gV.cell s1).trans (b1 i)
    have c2 : ∀ i, V.cell? ⟨w.heap.size + 1, i, none⟩ = (#[.bool true, .slice s2' lb c2', .int .i64 F] : Array Value)[i]? := fun i => (gV.cell s2).trans (b2 i)
    have c3 : ∀ i, V.cell? ⟨w.heap.size + 1 + 1, i, none⟩ = (#[.bool false, .slice none 0 0, .int .i64 0] : Array Value)[i]? := fun i => (gV.cell s3).trans (b3 i)
    have fz : ∀ i, V.frozen? ⟨w.heap.size + 1 + 1, i, none⟩ = false := fun i => (gV.frozen s3).trans (f3 i)
    have zV := gV.below.size
    have z1 : w.heap.size < V.heap.size := by omega
    have z2 : w.heap.size + 1 < V.heap.size := by omega
    have z3 : w.heap.size + 1 + 1 < V.heap.size := by omega
    have gw : Grew w V := Grew.trans g0 gV
    clear hV gV b1 b2 b3 f1 f2 f3
    go_loopw [7, 8, 10] (fun u c d wx => ∃ (k : Nat) (m : List Nat) (y : Nat), k ≤ n ∧ OwnN wx V.heap.size u m ∧ c = .int .i64 y ∧ d = .int .i64 (A + k) ∧ m.length = k ∧ Dg m ∧ y ≤ 1 ∧ dv m + y * 65536 ^ k = ds f k + ds g k ∧ ∃ o n, wx = ext V o n) (fun _ _ d _ => (A + n - intOf d).toNat)
    case atStart => exact ⟨0, [], 0, Nat.zero_le _, OwnN.nil _ _, rfl, by go_num, rfl, Dg.nil, by omega, by simp [dv, ds], _, _, ext_zero.symm⟩
    case round =>
      obtain ⟨k, m, y, hk, hO, rfl, rfl, hmk, hmD, hy, hmV, o2, m2, rfl⟩ := hrel
      have hml : m.length ≤ 600000 := by omega
      by_cases hkn : k < n
      · have h1 := fun w' p => hat1 k w' hkn (Grew.trans gw p)
        have h2 := fun w' p => hat2 k w' hkn (Grew.trans gw p)
        have hfk := hf16 k
        have hgk := hg16 k
        obtain ⟨S, hS⟩ : ∃ S, S = y + f k + g k := ⟨_, rfl⟩
        have hst := add_step hmk hS hmV
        obtain ⟨X, hX⟩ : ∃ X, X = f k := ⟨_, rfl⟩
        obtain ⟨Y, hY⟩ : ∃ Y, Y = g k := ⟨_, rfl⟩
        rw [← hX] at h1 hfk hS
        rw [← hY] at h2 hgk hS
        obtain ⟨Mo, hMo⟩ : ∃ Mo, Mo = S % 65536 := ⟨_, rfl⟩
        obtain ⟨Di, hDi⟩ : ∃ Di, Di = S / 65536 := ⟨_, rfl⟩
        have m1 : ((y : Int) + X + Y).tmod 65536 = (Mo : Int) := by rw [Int.tmod_eq_emod_of_nonneg (by omega)]; omega
        have m2' : ((y : Int) + X + Y).tdiv 65536 = (Di : Int) := by rw [Int.tdiv_eq_ediv_of_nonneg (by omega)]; omega
        rw [← hMo, ← hDi] at hst
        have w1 : IntKind.i64.wrap ((y : Int) + X) = (y : Int) + X := IntWalk.i64_in _ (by omega)
        have w2 : IntKind.i64.wrap ((y : Int) + X + Y) = (y : Int) + X + Y := IntWalk.i64_in _ (by omega)
        have hDi1 : Di ≤ 1 := by omega
        have hMo1 : Mo < 65536 := by omega
        have HST := hid hst
        have HM := hid hmk
        clear hst hmV hX hY hS hMo hDi hmk
        go_wp2
        refine wp_region_R (Grew V) [] [(0,0), (0,1), (0,2), (0,5), (0,6), (1,3), (0,4), (1,7), (0,8), (0,9)] (by kernel_rfl) (by kernel_rfl) (fun _ _ _ _ h _ => h) (by first | exact ⟨_, _, ext_drew⟩ | exact ⟨_, _, drew_ext0⟩ | (show Grew _ _; repeat (first | (with_reducible exact Grew.refl _) | (with_reducible assumption) | (with_reducible exact Grew.same_o) | (with_reducible exact Grew.app_o) | (with_reducible refine Grew.ext ?_ _ _) | (with_reducible refine Grew.alloc ?_ _) | ((with_reducible refine Grew.setCell ?_ ?_ _); rotate_left; (focus (dsimp only; first | omega | (simp only [size_ext, World.size_alloc, Array.size_append]; omega)))) | (with_reducible refine Grew.drewN ?_ _) | (with_reducible refine Grew.drew ?_)))) ?_
        go_wp2_with (first | ((with_reducible refine wpR_id ?_); first | (refine wpR_take (v := ?_) rfl rfl ?_ ?_; rotate_left; (focus (rintro w' ⟨o', n', rfl⟩; go_simp; try with_reducible rfl)); simp only [Act.put, List.setIfInBounds_toArray, List.set_cons_zero, List.set_cons_succ]) | (refine wpR_pure (v := ?_) rfl rfl ?_ ?_; rotate_left; (focus (intro w'; go_simp; try with_reducible rfl)); simp only [Act.put, List.setIfInBounds_toArray, List.set_cons_zero, List.set_cons_succ]) | (refine wpR_takeG (v := ?_) rfl rfl rfl rfl rfl ?_ ?_; rotate_left; (focus (rintro w' ⟨o', n', rfl⟩; go_simp; try with_reducible rfl)); simp only [Act.put, List.setIfInBounds_toArray, List.set_cons_zero, List.set_cons_succ]) | (refine wpR_skip rfl rfl rfl rfl rfl rfl ?_; simp only [Act.put, List.setIfInBounds_toArray, List.set_cons_zero, List.set_cons_succ]) | (refine wpR_skipU rfl rfl rfl rfl rfl ?_; simp only [Act.put, List.setIfInBounds_toArray, List.set_cons_zero, List.set_cons_succ]) | (refine wpR_do rfl rfl (fun K hK => ?_)) | (refine wpR_doG rfl rfl rfl rfl rfl (fun K hK => ?_)) | (refine wpR_last rfl rfl (fun K hK => ?_)) | (refine wpR_nil ?_)) | ((with_reducible refine wpR_go ?_ ?_); (focus (show Grew _ _; repeat (first | (with_reducible exact Grew.refl _) | (with_reducible assumption) | (with_reducible exact Grew.same_o) | (with_reducible exact Grew.app_o) | (with_reducible refine Grew.ext ?_ _ _) | (with_reducible refine Grew.alloc ?_ _) | ((with_reducible refine Grew.setCell ?_ ?_ _); rotate_left; (focus (dsimp only; first | omega | (simp only [size_ext, World.size_alloc, Array.size_append]; omega)))) | (with_reducible refine Grew.drewN ?_ _) | (with_reducible refine Grew.drew ?_))))) | ((with_reducible refine upon_id ?_); refine upon_fop rfl (by assumption) (by assumption) ?_; intro rr nn hr) | (go_at_call 122; ((with_reducible refine (h1 _ (by (show Grew _ _; repeat (first | (with_reducible exact Grew.refl _) | (with_reducible assumption) | (with_reducible exact Grew.same_o) | (with_reducible exact Grew.app_o) | (with_reducible refine Grew.ext ?_ _ _) | (with_reducible refine Grew.alloc ?_ _) | ((with_reducible refine Grew.setCell ?_ ?_ _); rotate_left; (focus (dsimp only; first | omega | (simp only [size_ext, World.size_alloc, Array.size_append]; omega)))) | (with_reducible refine Grew.drewN ?_ _) | (with_reducible refine Grew.drew ?_))))).mono ?_); rintro e w1 ⟨rfl, oc, kc, rfl⟩)) | (go_at_call 122; ((with_reducible refine (h2 _ (by (show Grew _ _; repeat (first | (with_reducible exact Grew.refl _) | (with_reducible assumption) | (with_reducible exact Grew.same_o) | (with_reducible exact Grew.app_o) | (with_reducible refine Grew.ext ?_ _ _) | (with_reducible refine Grew.alloc ?_ _) | ((with_reducible refine Grew.setCell ?_ ?_ _); rotate_left; (focus (dsimp only; first | omega | (simp only [size_ext, World.size_alloc, Array.size_append]; omega)))) | (with_reducible refine Grew.drewN ?_ _) | (with_reducible refine Grew.drew ?_))))).mono ?_); rintro e w1 ⟨rfl, od, kd, rfl⟩)) | (at_builtin; refine append1_n iundN iinfoN rfl (W := V) (l := m) (d := Mo) ⟨_, _, rfl⟩ ?_ ?_ (by omega) _ _ rfl rfl rfl ?_ rfl ?_; (focus (first | exact hO | exact hO.grew (by (show Grew _ _; repeat (first | (with_reducible exact Grew.refl _) | (with_reducible assumption) | (with_reducible exact Grew.same_o) | (with_reducible exact Grew.app_o) | (with_reducible refine Grew.ext ?_ _ _) | (with_reducible refine Grew.alloc ?_ _) | ((with_reducible refine Grew.setCell ?_ ?_ _); rotate_left; (focus (dsimp only; first | omega | (simp only [size_ext, World.size_alloc, Array.size_append]; omega)))) | (with_reducible refine Grew.drewN ?_ _) | (with_reducible refine Grew.drew ?_)))))); (focus (first | rfl | omega)); (focus (first | rfl | (simp only [size_ext, World.size_alloc, Array.size_append]; done) | (simp only [size_ext, World.size_alloc, Array.size_append]; omega))); intro va oa na hoa))
        go_roundw
        case rel => exact ⟨k + 1, m ++ [Mo], Di, hkn, hoa, rfl, by go_num, by simp; exact HM.out, hmD.append (Dg.one hMo1), hDi1, HST.out, _, _, rfl⟩
        case measure => simp [intOf]; omega
      · have e : k = n := by omega
        subst e
        have hfin : dv (m ++ [y]) = ds f k + ds g k := by rw [dv_snoc, hmk]; exact hmV
        have hDf : Dg (m ++ [y]) := hmD.append (Dg.one (by omega))
        have hlf : (m ++ [y]).length ≤ k + 1 := by simp; omega
        have HS2 := hid (show dat true (dv (m ++ [y])) (16 * A) = r by rw [hfin]; exact hS)
        clear hfin hmV hmk
        go_wp2_with (first | (at_builtin; refine append1_n iundN iinfoN rfl (W := V) (l := m) (d := y) ⟨_, _, rfl⟩ ?_ ?_ (by omega) _ _ rfl rfl rfl ?_ rfl ?_; (focus (first | exact hO | exact hO.grew (by (show Grew _ _; repeat (first | (with_reducible exact Grew.refl _) | (with_reducible assumption) | (with_reducible exact Grew.same_o) | (with_reducible exact Grew.app_o) | (with_reducible refine Grew.ext ?_ _ _) | (with_reducible refine Grew.alloc ?_ _) | ((with_reducible refine Grew.setCell ?_ ?_ _); rotate_left; (focus (dsimp only; first | omega | (simp only [size_ext, World.size_alloc, Array.size_append]; omega)))) | (with_reducible refine Grew.drewN ?_ _) | (with_reducible refine Grew.drew ?_)))))); (focus (first | rfl | omega)); (focus (first | rfl | (simp only [size_ext, World.size_alloc, Array.size_append]; done) | (simp only [size_ext, World.size_alloc, Array.size_append]; omega))); intro va oa na hoa) | (go_at_call 120; ((with_reducible refine (hmade _ _ (m ++ [y]) _ hoa.ns hDf hlf HS2.out).mono ?_); rintro e w1 ⟨v, rfl, hv, hbk, oz, nz, rfl⟩; obtain ⟨vn, va', vl, vc, vE, rfl⟩ := hv.shape)))
        ((have hbk2 : ∀ k, dBlock (.agg #[.bool vn, .slice va' vl vc, .int .i64 vE]) = some k → V.heap.size ≤ k := fun k hk => hoa.block k (hbk k hk)); rw [ext_ext] at hv; refine bodyPost_ret (by simp [results, Try.results31, go_sem, *]; rfl) rfl ?_; exact ⟨_, rfl, hv.ext_set3 z3 (fun k hk => by have := hbk2 k hk; omega) _ _ _, fun k hk => by have := hbk2 k hk; have := gw.below.size; omega, grew_set3 gw (by omega) _ _ _ _ _⟩)
end Go.Proofs.Ytcmggfpcbijcjaa
end
