/- Proved: the law FixencUnpacks of layer 7: the two that any number tells are the document's; for every input, without a condition. -/
import Derived.Test.YtnaphgnkhhapoabMFixencUnpackse
import Derived.Deep.RegionHeld3
import Derived.SizedLaws
import Derived.ChangeSlices
import Derived.Test.YtnaphgnkhhapoabRows
import Derived.WalkKit
import Derived.ProofKit
import Derived.OpenShut
import Derived.ShutString
import Derived.ChangeOld
import Derived.Below
set_option maxHeartbeats 8000000
set_option maxRecDepth 100000
section
namespace Go.Proofs.Ytnaphgnkhhapoab.Z
open Go.RowKit Go.Proofs.Ytnaphgnkhhapoab.F Go.Proofs.YtnaphgnkhhapoabW.PrintWords
set_option linter.unusedSimpArgs false
set_option linter.unusedVariables false
theorem div_corr {Y a b u c q r : Int} (hY : Y = a * 4294967296 + b) (ha : 2147483648 ≤ a ∧ a < 4294967296) (hb : 0 ≤ b ∧ b < 4294967296) (hu : 0 ≤ u ∧ u < Y) (hc : 0 ≤ c ∧ c < 4294967296)
    (hq : (u * 4294967296 + c) / Y ≤ q) (hq2 : q ≤ 4294967297) (hr : r = u - q * a) (hr0 : 0 ≤ r ∧ r < 4294967296) :
    ((q ≥ 4294967296 ∨ q * b > 4294967296 * r + c) → (u * 4294967296 + c) / Y ≤ q - 1) ∧ (¬ (q ≥ 4294967296 ∨ q * b > 4294967296 * r + c) → (u * 4294967296 + c) / Y = q) ∧
    ((q ≥ 4294967296 ∨ q * b > 4294967296 * r + c) → r + a ≥ 4294967296 → (u * 4294967296 + c) / Y = q - 1) := by
  have hY0 : 0 < Y := by omega
  have e1 : q * Y = q * a * 4294967296 + q * b := by rw [hY]; grind
  have e2 : (q - 1) * Y = q * Y - Y := by grind
  have lt : (u * 4294967296 + c) / Y < 4294967296 := by
    apply Int.ediv_lt_of_lt_mul hY0
    omega
  have up : (q ≥ 4294967296 ∨ q * b > 4294967296 * r + c) → (u * 4294967296 + c) / Y ≤ q - 1 := by
    intro h
    rcases h with h | h
    · omega
    · have : (u * 4294967296 + c) / Y < q := by
        apply Int.ediv_lt_of_lt_mul hY0
        rw [e1]; omega
      omega
  refine ⟨up, fun h => ?_, fun h h2 => ?_⟩
  · have : q ≤ (u * 4294967296 + c) / Y := by
      rw [Int.le_ediv_iff_mul_le hY0, e1]
      omega
    omega
  · have h3 := up h
    have h4 : (q - 1) * b ≤ 4294967296 * 4294967295 := by
      by_cases h5 : q - 1 ≤ 0
      · have : (q - 1) * b ≤ 0 := Int.mul_nonpos_of_nonpos_of_nonneg h5 hb.1
        omega
      · exact Int.mul_le_mul (by omega) (by omega) hb.1 (by omega)
    have h6 : (q - 1) * b = q * b - b := by grind
    have : q - 1 ≤ (u * 4294967296 + c) / Y := by
      rw [Int.le_ediv_iff_mul_le hY0, e2, e1]
      omega
    omega
theorem mul_u64 {x y : Int} (hx : 0 ≤ x ∧ x < 4294967296) (hy : 0 ≤ y ∧ y < 4294967296) : 0 ≤ x * y ∧ x * y < 18446744073709551616 := by
  refine ⟨Int.mul_nonneg hx.1 hy.1, ?_⟩
  have : x * y ≤ 4294967295 * 4294967295 := Int.mul_le_mul (by omega) (by omega) hy.1 (by omega)
  omega
theorem div_l0 {Y a b u c c0 s : Int} (hY : Y = a * 4294967296 + b) (ha : 2147483648 ≤ a ∧ a < 4294967296) (hb : 0 ≤ b ∧ b < 4294967296) (hu : 0 ≤ u ∧ u < Y) (hc : 0 ≤ c ∧ c < 4294967296) {res : Int × Int}
    (fin : Evt (fun k => bits_Div64.j2 k Y s a b u c c0 ((u * 4294967296 + c) / Y)) res) (n : Nat) : ∀ q r : Int, (u * 4294967296 + c) / Y ≤ q → q ≤ 4294967297 → r = u - q * a → 0 ≤ r ∧ r < 4294967296 → q - (u * 4294967296 + c) / Y ≤ n →
    Evt (fun k => bits_Div64.l0 k Y s a b u c c0 q r) res := by
  have hQ0 : 0 ≤ (u * 4294967296 + c) / Y := Int.ediv_nonneg (by omega) (by omega)
  induction n with
  | zero =>
    intro q r hq hq2 hr hr0 hn
    obtain ⟨g1, g2, g3⟩ := div_corr hY ha hb hu hc hq hq2 hr hr0
    have hno : ¬ (q ≥ 4294967296 ∨ q * b > 4294967296 * r + c) := fun h => by have := g1 h; omega
    refine Evt.succ ?_
    simp only [bits_Div64.l0]
    refine Evt.ite_neg (fun h => hno (Or.inl h)) ?_
    have hm := mul_u64 (x := q) (y := b) ⟨by omega, by omega⟩ hb
    rw [wu64_of hm.1 hm.2, wu64_of (x := 4294967296 * r) (by omega) (by omega), wu64_of (x := 4294967296 * r + c) (by omega) (by omega)]
    refine Evt.succ ?_
    simp only [bits_Div64.j1]
    refine Evt.ite_neg (by simp only [decide_eq_true_eq]; exact fun h => hno (Or.inr h)) ?_
    rw [← g2 hno]
    exact fin
  | succ n ih =>
    intro q r hq hq2 hr hr0 hn
    obtain ⟨g1, g2, g3⟩ := div_corr hY ha hb hu hc hq hq2 hr hr0
    have key : ∀ t : Bool, (t = true ↔ (q ≥ 4294967296 ∨ q * b > 4294967296 * r + c)) → Evt (fun k => bits_Div64.j1 k Y s a b u c c0 q r t) res := by
      intro t ht
      refine Evt.succ ?_
      simp only [bits_Div64.j1]
      by_cases h : t = true
      · have h' := ht.1 h
        have hq1 := g1 h'
        refine Evt.ite_pos h ?_
        rw [wu64_of (x := r + a) (by omega) (by omega), wu64_of (x := q - 1) (by omega) (by omega)]
        by_cases h2 : r + a ≥ 4294967296
        · refine Evt.ite_pos h2 ?_
          rw [← g3 h' h2]
          exact fin
        · refine Evt.ite_neg h2 (ih (q - 1) (r + a) hq1 (by omega) ?_ (by omega) (by omega))
          rw [hr]; grind
      · refine Evt.ite_neg h ?_
        rw [← g2 (fun h' => h (ht.2 h'))]
        exact fin
    refine Evt.succ ?_
    simp only [bits_Div64.l0]
    by_cases h : q ≥ 4294967296
    · exact Evt.ite_pos h (key true ⟨fun _ => Or.inl h, fun _ => rfl⟩)
    · refine Evt.ite_neg h (key _ ?_)
      have hm := mul_u64 (x := q) (y := b) ⟨by omega, by omega⟩ hb
      rw [wu64_of hm.1 hm.2, wu64_of (x := 4294967296 * r) (by omega) (by omega), wu64_of (x := 4294967296 * r + c) (by omega) (by omega), decide_eq_true_eq]
      exact ⟨fun h => Or.inr h, fun h' => by rcases h' with h' | h'; exact absurd h' h; exact h'⟩
theorem div_left {Y u c : Int} (hY : 0 < Y ∧ Y < 18446744073709551616) (hu : 0 ≤ u ∧ u < Y) (hc : 0 ≤ c ∧ c < 4294967296) :
    IntKind.u64.wrap ((IntKind.u64.wrap ((IntKind.u64.wrap (u * 4294967296)) + c)) - (IntKind.u64.wrap ((u * 4294967296 + c) / Y * Y))) = (u * 4294967296 + c) % Y := by
  have h1 : (u * 4294967296 + c) % Y + (u * 4294967296 + c) / Y * Y = u * 4294967296 + c := by rw [Int.mul_comm (_ / Y)]; exact Int.emod_add_mul_ediv _ _
  have h2 := Int.emod_nonneg (u * 4294967296 + c) (show Y ≠ 0 by omega)
  have h3 := Int.emod_lt_of_pos (u * 4294967296 + c) hY.1
  generalize (u * 4294967296 + c) % Y = m at *
  generalize (u * 4294967296 + c) / Y * Y = p at *
  simp only [wu64]
  omega
theorem div_first {Y a b u : Int} (c : Int) (hY : Y = a * 4294967296 + b) (ha : 2147483648 ≤ a ∧ a < 4294967296) (hb : 0 ≤ b ∧ b < 4294967296) (hu : 0 ≤ u ∧ u < Y) (hc : 0 ≤ c ∧ c < 4294967296) :
    IntKind.u64.wrap (Int.tdiv u a) = u / a ∧ IntKind.u64.wrap (u - IntKind.u64.wrap (u / a * a)) = u - u / a * a ∧ (u * 4294967296 + c) / Y ≤ u / a ∧ u / a ≤ 4294967297 ∧ 0 ≤ u - u / a * a ∧ u - u / a * a < 4294967296 := by
  have h1 : u % a + u / a * a = u := by rw [Int.mul_comm (u / a)]; exact Int.emod_add_mul_ediv _ _
  have h2 := Int.emod_nonneg u (show a ≠ 0 by omega)
  have h3 := Int.emod_lt_of_pos u (show 0 < a by omega)
  have h4 := Int.ediv_nonneg hu.1 (show 0 ≤ a by omega)
  have h5 : u / a < 4294967298 := by
    apply Int.ediv_lt_of_lt_mul (by omega)
    omega
  have h6 : (u * 4294967296 + c) / Y ≤ u / a := by
    have hY0 : 0 < Y := by omega
    have : (u * 4294967296 + c) / Y < u / a + 1 := by
      apply Int.ediv_lt_of_lt_mul hY0
      have e : (u / a + 1) * Y = (u / a * a + a) * 4294967296 + (u / a) * b + b := by rw [hY]; grind
      have h7 := Int.mul_nonneg h4 hb.1
      rw [e]
      omega
    omega
  rw [Int.tdiv_eq_ediv_of_nonneg hu.1, wu64_of h4 (by omega)]
  have h8 := Int.mul_nonneg h4 (show 0 ≤ a by omega)
  refine ⟨rfl, ?_, h6, by omega, by omega, by omega⟩
  rw [wu64_of (x := u / a * a) (by omega) (by omega), wu64_of (by omega) (by omega)]
theorem div_l1 {Y a b u c q1 : Int} (s : Nat) (hs : s < 64) (hY : Y = a * 4294967296 + b) (ha : 2147483648 ≤ a ∧ a < 4294967296) (hb : 0 ≤ b ∧ b < 4294967296) (hu : 0 ≤ u ∧ u < Y) (hc : 0 ≤ c ∧ c < 4294967296)
    (hq1 : 0 ≤ q1 ∧ q1 < 4294967296) (n : Nat) : ∀ q r : Int, (u * 4294967296 + c) / Y ≤ q → q ≤ 4294967297 → r = u - q * a → 0 ≤ r ∧ r < 4294967296 → q - (u * 4294967296 + c) / Y ≤ n →
    Evt (fun k => bits_Div64.l1 k Y (s : Int) a b c q1 r u q) (q1 * 4294967296 + (u * 4294967296 + c) / Y, (u * 4294967296 + c) % Y / 2 ^ s) := by
  have hQ0 : 0 ≤ (u * 4294967296 + c) / Y := Int.ediv_nonneg (by omega) (by omega)
  have hQ1 : (u * 4294967296 + c) / Y < 4294967296 := by
    apply Int.ediv_lt_of_lt_mul (by omega)
    omega
  have hl := div_left (Y := Y) (u := u) (c := c) ⟨by omega, by omega⟩ hu hc
  induction n with
  | zero =>
    intro q r hq hq2 hr hr0 hn
    obtain ⟨g1, g2, g3⟩ := div_corr hY ha hb hu hc hq hq2 hr hr0
    have hno : ¬ (q ≥ 4294967296 ∨ q * b > 4294967296 * r + c) := fun h => by have := g1 h; omega
    refine Evt.succ ?_
    simp only [bits_Div64.l1]
    refine Evt.ite_neg (fun h => hno (Or.inl h)) ?_
    have hm := mul_u64 (x := q) (y := b) ⟨by omega, by omega⟩ hb
    rw [wu64_of hm.1 hm.2, wu64_of (x := 4294967296 * r) (by omega) (by omega), wu64_of (x := 4294967296 * r + c) (by omega) (by omega)]
    refine Evt.succ ?_
    simp only [bits_Div64.j4]
    refine Evt.ite_neg (by simp only [decide_eq_true_eq]; exact fun h => hno (Or.inr h)) (Evt.ite_pos (by omega) ?_)
    rw [← g2 hno, hl, shr_u64 _ _ (by omega), wu64_of (x := q1 * 4294967296) (by omega) (by omega), wu64_of (by omega) (by omega)]
    exact Evt.pure _
  | succ n ih =>
    intro q r hq hq2 hr hr0 hn
    obtain ⟨g1, g2, g3⟩ := div_corr hY ha hb hu hc hq hq2 hr hr0
    have key : ∀ t : Bool, (t = true ↔ (q ≥ 4294967296 ∨ q * b > 4294967296 * r + c)) → Evt (fun k => bits_Div64.j4 k Y (s : Int) a b c q1 r u q t) (q1 * 4294967296 + (u * 4294967296 + c) / Y, (u * 4294967296 + c) % Y / 2 ^ s) := by
      intro t ht
      refine Evt.succ ?_
      simp only [bits_Div64.j4]
      by_cases h : t = true
      · have h' := ht.1 h
        have hq1 := g1 h'
        refine Evt.ite_pos h ?_
        rw [wu64_of (x := r + a) (by omega) (by omega), wu64_of (x := q - 1) (by omega) (by omega)]
        by_cases h2 : r + a ≥ 4294967296
        · refine Evt.ite_pos h2 (Evt.ite_pos (by omega) ?_)
          rw [← g3 h' h2, hl, shr_u64 _ _ (by omega), wu64_of (x := q1 * 4294967296) (by omega) (by omega), wu64_of (by omega) (by omega)]
          exact Evt.pure _
        · refine Evt.ite_neg h2 (ih (q - 1) (r + a) hq1 (by omega) ?_ (by omega) (by omega))
          rw [hr]; grind
      · refine Evt.ite_neg h (Evt.ite_pos (by omega) ?_)
        rw [← g2 (fun h' => h (ht.2 h')), hl, shr_u64 _ _ (by omega), wu64_of (x := q1 * 4294967296) (by omega) (by omega), wu64_of (by omega) (by omega)]
        exact Evt.pure _
    refine Evt.succ ?_
    simp only [bits_Div64.l1]
    by_cases h : q ≥ 4294967296
    · exact Evt.ite_pos h (key true ⟨fun _ => Or.inl h, fun _ => rfl⟩)
    · refine Evt.ite_neg h (key _ ?_)
      have hm := mul_u64 (x := q) (y := b) ⟨by omega, by omega⟩ hb
      rw [wu64_of hm.1 hm.2, wu64_of (x := 4294967296 * r) (by omega) (by omega), wu64_of (x := 4294967296 * r + c) (by omega) (by omega), decide_eq_true_eq]
      exact ⟨fun h => Or.inr h, fun h' => by rcases h' with h' | h'; exact absurd h' h; exact h'⟩
theorem mask32 {x : Int} (h0 : 0 ≤ x) (h1 : x < 18446744073709551616) : Go.bits .and .u64 x 4294967295 = x % 4294967296 := by
  have h := bits_mask .u64 64 (by decide) wraps_u64 32 (by decide) x h0 (by omega)
  rw [show (2 : Int) ^ 32 = 4294967296 from by decide] at h
  exact h
theorem bits_Div64_ev {hi lo y : Int} (h1 : 0 ≤ hi ∧ hi < y) (h2 : 0 ≤ lo ∧ lo < 18446744073709551616) (h3 : y < 18446744073709551616) :
    Evt (fun k => bits_Div64.f k hi lo y) ((hi * 18446744073709551616 + lo) / y, (hi * 18446744073709551616 + lo) % y) := by
  unfold bits_Div64.f
  refine Evt.ite_neg (by omega) (Evt.ite_neg (by omega) ?_)
  by_cases h0 : hi = 0
  · subst h0
    have h4 := Int.ediv_nonneg h2.1 (show 0 ≤ y by omega)
    have h5 := Int.ediv_le_self y h2.1
    refine Evt.ite_pos rfl ?_
    rw [Int.zero_mul, Int.zero_add, Int.tdiv_eq_ediv_of_nonneg h2.1, Int.tmod_eq_emod_of_nonneg h2.1, wu64_of h4 (by omega)]
    exact Evt.pure _
  · refine Evt.ite_neg h0 ?_
    have hbl := bl_le (x := y.toNat) (m := 64) (by omega)
    have hbp := bl_pos (n := y.toNat) (by omega)
    have hb1 := bl_lt y.toNat
    have hb2 := bl_ge (n := y.toNat) (by omega)
    obtain ⟨s, hs⟩ : ∃ s, s = 64 - bl y.toNat := ⟨_, rfl⟩
    have hs64 : s < 64 := by omega
    refine Evt.bind (Evt.bind (h := fun t _ => some (wrap64 (64 - t))) (bits_Len64_ev (x := y) (by omega) h3) (Evt.pure _)) ?_
    rw [show wrap64 (64 - ((bl y.toNat : Nat) : Int)) = (s : Int) from by rw [w64 (by omega) (by omega)]; omega]
    rw [wu64_of (x := (s : Int)) (by omega) (by omega), wu64_of (x := 64 - (s : Int)) (by omega) (by omega), show 64 - (s : Int) = ((64 - s : Nat) : Int) from by omega]
    rw [shl_u64 y s (by omega), shl_u64 hi s (by omega), shl_u64 lo s (by omega), shr_u64 lo (64 - s) (by omega)]
    have hp := pow2_pos s
    have hY1 : y * 2 ^ s < 18446744073709551616 := by
      have h4 : y.toNat * 2 ^ s < 2 ^ bl y.toNat * 2 ^ s := Nat.mul_lt_mul_of_pos_right hb1 (Nat.pow_pos (by decide))
      rw [← Nat.pow_add, show bl y.toNat + s = 64 from by omega] at h4
      have h5 : ((y.toNat * 2 ^ s : Nat) : Int) = y * 2 ^ s := by rw [Int.natCast_mul, Int.toNat_of_nonneg (by omega)]; simp
      omega
    have hY2 : 9223372036854775808 ≤ y * 2 ^ s := by
      have h4 : 2 ^ (bl y.toNat - 1) * 2 ^ s ≤ y.toNat * 2 ^ s := Nat.mul_le_mul_right _ hb2
      rw [← Nat.pow_add, show bl y.toNat - 1 + s = 63 from by omega] at h4
      have h5 : ((y.toNat * 2 ^ s : Nat) : Int) = y * 2 ^ s := by rw [Int.natCast_mul, Int.toNat_of_nonneg (by omega)]; simp
      omega
    have hh0 : 0 ≤ hi * 2 ^ s := Int.mul_nonneg h1.1 (by omega)
    have hh1 : hi * 2 ^ s + 2 ^ s ≤ y * 2 ^ s := by
      have := Int.mul_le_mul_of_nonneg_right (show hi + 1 ≤ y by omega) (show 0 ≤ (2 : Int) ^ s by omega)
      rw [Int.add_mul, Int.one_mul] at this
      exact this
    obtain ⟨f1, f2, f3, f4⟩ := shl_facts h2 (s := s) (by omega)
    have f5 := Int.emod_nonneg (lo * 2 ^ s) (show (18446744073709551616 : Int) ≠ 0 by omega)
    have f6 := Int.emod_lt_of_pos (lo * 2 ^ s) (show (0 : Int) < 18446744073709551616 by omega)
    rw [Int.emod_eq_of_lt (show 0 ≤ y * 2 ^ s by omega) hY1, Int.emod_eq_of_lt hh0 (by omega)]
    rw [or_u64 s (by omega) hh0 (Int.mul_emod_left _ _) (by omega) f3 f4]
    rw [mask32 (by omega) hY1, mask32 f5 f6]
    have hres : ((hi * 18446744073709551616 + lo) * 2 ^ s) / (y * 2 ^ s) = (hi * 18446744073709551616 + lo) / y := Int.mul_ediv_mul_of_pos_left _ _ hp
    have hrem : ((hi * 18446744073709551616 + lo) * 2 ^ s) % (y * 2 ^ s) = (hi * 18446744073709551616 + lo) % y * 2 ^ s := by
      rw [Int.mul_comm _ (2 ^ s), Int.mul_comm y, Int.mul_emod_mul_of_pos _ _ hp, Int.mul_comm]
    have hV : (hi * 18446744073709551616 + lo) * 2 ^ s = (hi * 2 ^ s + lo / 2 ^ (64 - s)) * 18446744073709551616 + (lo * 2 ^ s) % 18446744073709551616 := by
      have e : (hi * 18446744073709551616 + lo) * 2 ^ s = hi * 2 ^ s * 18446744073709551616 + lo * 2 ^ s := by grind
      rw [e]
      omega
    have hu : 0 ≤ hi * 2 ^ s + lo / 2 ^ (64 - s) ∧ hi * 2 ^ s + lo / 2 ^ (64 - s) < y * 2 ^ s := by omega
    generalize (hi * 18446744073709551616 + lo) / y = RQ at *
    generalize (hi * 18446744073709551616 + lo) % y = RM at *
    generalize hi * 2 ^ s + lo / 2 ^ (64 - s) = u at *
    generalize (lo * 2 ^ s) % 18446744073709551616 = v at *
    generalize y * 2 ^ s = Y at *
    rw [hV] at hres hrem
    have ha : 2147483648 ≤ Y / 4294967296 ∧ Y / 4294967296 < 4294967296 := by omega
    have hb : 0 ≤ Y % 4294967296 ∧ Y % 4294967296 < 4294967296 := by omega
    have hYY : Y = Y / 4294967296 * 4294967296 + Y % 4294967296 := by omega
    have hc : 0 ≤ v / 4294967296 ∧ v / 4294967296 < 4294967296 := by omega
    have hc0 : 0 ≤ v % 4294967296 ∧ v % 4294967296 < 4294967296 := by omega
    have hvv : v = v / 4294967296 * 4294967296 + v % 4294967296 := by omega
    generalize Y / 4294967296 = a at *
    generalize Y % 4294967296 = b at *
    generalize v / 4294967296 = c at *
    generalize v % 4294967296 = c0 at *
    refine Evt.ite_pos (by omega) (Evt.ite_pos (by omega) (Evt.ite_neg (by omega) ?_))
    obtain ⟨g1, g2, g3, g4, g5, g6⟩ := div_first c hYY ha hb hu hc
    rw [g1, g2]
    have hY0 : 0 < Y := by omega
    have m1 := Int.emod_nonneg (u * 4294967296 + c) (show Y ≠ 0 by omega)
    have m2 := Int.emod_lt_of_pos (u * 4294967296 + c) hY0
    have m3 := Int.emod_add_mul_ediv (u * 4294967296 + c) Y
    have q0 : 0 ≤ (u * 4294967296 + c) / Y := Int.ediv_nonneg (by omega) (by omega)
    have q1 : (u * 4294967296 + c) / Y < 4294967296 := by
      apply Int.ediv_lt_of_lt_mul hY0
      omega
    have hl := div_left (Y := Y) (u := u) (c := c) ⟨hY0, hY1⟩ hu hc
    refine div_l0 hYY ha hb hu hc ?_ 4294967300 (u / a) (u - u / a * a) g3 g4 rfl ⟨g5, g6⟩ (by omega)
    refine Evt.succ ?_
    simp only [bits_Div64.j2]
    refine Evt.ite_neg (by omega) ?_
    rw [hl]
    generalize (u * 4294967296 + c) % Y = u2 at *
    generalize (u * 4294967296 + c) / Y = Q1 at *
    obtain ⟨k1, k2, k3, k4, k5, k6⟩ := div_first c0 hYY ha hb ⟨m1, m2⟩ hc0
    rw [k1, k2]
    have n1 := Int.emod_nonneg (u2 * 4294967296 + c0) (show Y ≠ 0 by omega)
    have n2 := Int.emod_lt_of_pos (u2 * 4294967296 + c0) hY0
    have n3 := Int.emod_add_mul_ediv (u2 * 4294967296 + c0) Y
    have r0 : 0 ≤ (u2 * 4294967296 + c0) / Y := Int.ediv_nonneg (by omega) (by omega)
    have hend := div_l1 (q1 := Q1) s hs64 hYY ha hb ⟨m1, m2⟩ hc0 ⟨q0, q1⟩ 4294967300 (u2 / a) (u2 - u2 / a * a) k3 k4 rfl ⟨k5, k6⟩ (by omega)
    refine hend.congr (fun k => rfl) ?_
    generalize (u2 * 4294967296 + c0) % Y = M at *
    generalize (u2 * 4294967296 + c0) / Y = Q0 at *
    have ef : u * 18446744073709551616 + v = M + Y * (Q1 * 4294967296 + Q0) := by
      have e : Y * (Q1 * 4294967296 + Q0) = Y * Q1 * 4294967296 + Y * Q0 := by grind
      rw [e]
      omega
    rw [ef, Int.add_mul_ediv_left _ _ (show Y ≠ 0 by omega), Int.ediv_eq_zero_of_lt n1 n2, Int.zero_add] at hres
    rw [ef, Int.add_mul_emod_self_left, Int.emod_eq_of_lt n1 n2] at hrem
    rw [hres, hrem, Int.mul_ediv_cancel _ (by omega)]
theorem guess_l0 {r2 r1 r0 d1 d0 : Int} (h0 : 0 ≤ r0 ∧ r0 < 18446744073709551616) (k1 : 0 < d1 ∧ d1 < 18446744073709551616) (k0 : 0 ≤ d0 ∧ d0 < 18446744073709551616) (n : Nat) :
    ∀ q rest : Int, 0 ≤ q ∧ q < 18446744073709551616 → 0 ≤ rest ∧ rest < 18446744073709551616 → q * d1 + rest = r2 * 18446744073709551616 + r1 → q ≤ n → (∀ h, h < 18446744073709551616 → h * (d1 * 18446744073709551616 + d0) ≤ (r2 * 18446744073709551616 + r1) * 18446744073709551616 + r0 → h ≤ q) →
    ∃ g, Evt (fun k => nat_guess.l0 k r0 d1 d0 q rest) g ∧ (0 ≤ g ∧ g < 18446744073709551616) ∧ ∀ h, h < 18446744073709551616 → h * (d1 * 18446744073709551616 + d0) ≤ (r2 * 18446744073709551616 + r1) * 18446744073709551616 + r0 → h ≤ g := by
  induction n with
  | zero =>
    intro q rest hq hr he hn hall
    obtain rfl : q = 0 := by omega
    obtain ⟨hi, lo, e, e2, e3, e4⟩ := bits_Mul64_eq (x := 0) (y := d0) (by omega) k0
    refine ⟨0, ?_, by omega, hall⟩
    refine Evt.succ ?_
    simp only [nat_guess.l0]
    refine Evt.bind (Evt.of (fun _ => e)) ?_
    refine Evt.cond' (fun _ => ?_) (fun c => ?_)
    · refine Evt.succ ?_
      simp only [nat_guess.j1]
      exact Evt.ite_pos (by simp) (Evt.pure _)
    · rw [Int.zero_mul] at e2
      refine Evt.ite_pos (by omega) ?_
      refine Evt.succ ?_
      simp only [nat_guess.j1]
      exact Evt.ite_pos (by simp; omega) (Evt.pure _)
  | succ n ih =>
    intro q rest hq hr he hn hall
    obtain ⟨hi, lo, e, e2, e3, e4⟩ := bits_Mul64_eq (x := q) (y := d0) hq k0
    by_cases hp : hi < rest ∨ (hi = rest ∧ lo ≤ r0)
    · refine ⟨q, ?_, hq, hall⟩
      refine Evt.succ ?_
      simp only [nat_guess.l0]
      refine Evt.bind (Evt.of (fun _ => e)) ?_
      refine Evt.cond' (fun _ => ?_) (fun c => ?_)
      · refine Evt.succ ?_
        simp only [nat_guess.j1]
        exact Evt.ite_pos (by simp) (Evt.pure _)
      · refine Evt.ite_pos (by omega) ?_
        refine Evt.succ ?_
        simp only [nat_guess.j1]
        exact Evt.ite_pos (by simp; omega) (Evt.pure _)
    · have hno : ∀ h, h < 18446744073709551616 → h * (d1 * 18446744073709551616 + d0) ≤ (r2 * 18446744073709551616 + r1) * 18446744073709551616 + r0 → h ≤ q - 1 := by
        intro h h1 h2
        have h3 := hall h h1 h2
        by_cases h4 : h = q
        · subst h4
          have e5 : h * (d1 * 18446744073709551616 + d0) = h * d1 * 18446744073709551616 + h * d0 := by grind
          rw [e5, ← e2] at h2
          omega
        · omega
      have hq0 : q ≠ 0 := by
        intro h
        subst h
        rw [Int.zero_mul] at e2
        omega
      have step : ∀ {g : Int}, Evt (fun k => if IntKind.u64.wrap (rest + d1) < rest then (some (IntKind.u64.wrap (q - 1))) else (nat_guess.l0 k r0 d1 d0 (IntKind.u64.wrap (q - 1)) (IntKind.u64.wrap (rest + d1)))) g → Evt (fun k => nat_guess.l0 k r0 d1 d0 q rest) g := by
        intro g hg
        refine Evt.succ ?_
        simp only [nat_guess.l0]
        refine Evt.bind (Evt.of (fun _ => e)) ?_
        refine Evt.ite_neg (by omega) ?_
        refine Evt.cond' (fun _ => ?_) (fun c => ?_)
        · refine Evt.succ ?_
          simp only [nat_guess.j1]
          exact Evt.ite_neg (by simp; omega) hg
        · refine Evt.succ ?_
          simp only [nat_guess.j1]
          exact Evt.ite_neg (by simp) hg
      rw [wu64_of (x := q - 1) (by omega) (by omega), wu64] at step
      by_cases hov : rest + d1 < 18446744073709551616
      · obtain ⟨g, g1, g2, g3⟩ := ih (q - 1) (rest + d1) (by omega) (by omega) (by rw [Int.sub_mul]; omega) (by omega) hno
        refine ⟨g, step ?_, g2, g3⟩
        rw [Int.emod_eq_of_lt (by omega) hov]
        exact Evt.ite_neg (by omega) g1
      · refine ⟨q - 1, step ?_, by omega, hno⟩
        exact Evt.ite_pos (by omega) (Evt.pure _)
theorem nat_guess_ev {r2 r1 r0 d1 d0 : Int} (h2 : 0 ≤ r2) (h1 : 0 ≤ r1 ∧ r1 < 18446744073709551616) (h0 : 0 ≤ r0 ∧ r0 < 18446744073709551616) (k1 : 0 < d1 ∧ d1 < 18446744073709551616) (k0 : 0 ≤ d0 ∧ d0 < 18446744073709551616) :
    ∃ g, Evt (fun k => nat_guess.f k r2 r1 r0 d1 d0) g ∧ (0 ≤ g ∧ g < 18446744073709551616) ∧ ∀ h, h < 18446744073709551616 → h * (d1 * 18446744073709551616 + d0) ≤ (r2 * 18446744073709551616 + r1) * 18446744073709551616 + r0 → h ≤ g := by
  by_cases hc : r2 ≥ d1
  · refine ⟨18446744073709551615, ?_, by omega, fun h h3 _ => by omega⟩
    unfold nat_guess.f
    exact Evt.ite_pos hc (Evt.pure _)
  · have hq0 : 0 ≤ (r2 * 18446744073709551616 + r1) / d1 := Int.ediv_nonneg (by omega) (by omega)
    have hq1 : (r2 * 18446744073709551616 + r1) / d1 < 18446744073709551616 := by
      apply Int.ediv_lt_of_lt_mul k1.1
      omega
    have hm0 := Int.emod_nonneg (r2 * 18446744073709551616 + r1) (show d1 ≠ 0 by omega)
    have hm1 := Int.emod_lt_of_pos (r2 * 18446744073709551616 + r1) k1.1
    have hm : (r2 * 18446744073709551616 + r1) / d1 * d1 + (r2 * 18446744073709551616 + r1) % d1 = r2 * 18446744073709551616 + r1 := by rw [Int.mul_comm]; exact Int.mul_ediv_add_emod _ _
    obtain ⟨g, g1, g2, g3⟩ := guess_l0 (r2 := r2) (r1 := r1) h0 k1 k0 ((r2 * 18446744073709551616 + r1) / d1).toNat ((r2 * 18446744073709551616 + r1) / d1) ((r2 * 18446744073709551616 + r1) % d1) ⟨hq0, hq1⟩ ⟨hm0, by omega⟩ hm (by omega) (by
      intro h h3 h4
      rw [Int.le_ediv_iff_mul_le k1.1]
      have e : h * (d1 * 18446744073709551616 + d0) = h * d1 * 18446744073709551616 + h * d0 := by grind
      rw [e] at h4
      by_cases h5 : 0 ≤ h
      · have : 0 ≤ h * d0 := Int.mul_nonneg h5 k0.1
        omega
      · have : h * d1 ≤ 0 := Int.mul_nonpos_of_nonpos_of_nonneg (by omega) (by omega)
        omega)
    refine ⟨g, ?_, g2, g3⟩
    unfold nat_guess.f
    refine Evt.ite_neg hc ?_
    exact Evt.bind (bits_Div64_ev (by omega) h1 k1.2) g1
theorem drop_set_self (l : List Int) (i : Nat) (x : Int) (h : i < l.length) : (l.set i x).drop i = x :: l.drop (i + 1) := by
  rw [List.drop_eq_getElem_cons (by simpa using h), List.drop_set, if_pos (Nat.lt_succ_self i)]
  simp
theorem nat_short_loop (a : List Int) (d : Int) (da : Dig (b64 : Int) a) (ha : a.length ≤ 100000) (h0 : 0 < d) (h1 : d < 18446744073709551616) (n : Nat) :
    ∀ (out : List Int) (rest : Int), n ≤ a.length → out.length = a.length → Dig (b64 : Int) out → 0 ≤ rest ∧ rest < d → val (b64 : Int) (out.drop n) * d + rest = val (b64 : Int) (a.drop n) →
    Evt (fun k => nat_short.l0 k a d out rest ((n : Int) - 1)) (limbs (num a / d.toNat), ((num a % d.toNat : Nat) : Int)) := by
  induction n with
  | zero =>
    intro out rest hn ho do_ hr hv
    refine Evt.succ ?_
    simp only [nat_short.l0]
    refine Evt.ite_neg (by omega) ?_
    refine Evt.bind (nat_trim_ev out (by simp [maxLen]; omega)) ?_
    rw [strip_limbs do_]
    rw [List.drop_zero, List.drop_zero] at hv
    have e1 := num_val do_
    have e2 := num_val da
    have e3 : num a = num out * d.toNat + rest.toNat := by
      have : (num a : Int) = ((num out * d.toNat + rest.toNat : Nat) : Int) := by
        rw [Int.natCast_add, Int.natCast_mul, e1, e2, Int.toNat_of_nonneg (by omega), Int.toNat_of_nonneg hr.1]
        exact hv.symm
      omega
    have e4 : num a / d.toNat = num out := by
      rw [e3, Nat.mul_comm, Nat.mul_add_div (by omega), Nat.div_eq_of_lt (by omega), Nat.add_zero]
    have e5 : num a % d.toNat = rest.toNat := by
      rw [e3, Nat.mul_comm, Nat.mul_add_mod, Nat.mod_eq_of_lt (by omega)]
    rw [e4, e5, Int.toNat_of_nonneg hr.1]
    exact Evt.pure _
  | succ n ih =>
    intro out rest hn ho do_ hr hv
    refine Evt.succ ?_
    simp only [nat_short.l0]
    rw [show ((n + 1 : Nat) : Int) - 1 = (n : Int) from by omega, rd_nat, w64 (by omega) (by omega)]
    have hx := da.getD b64_pos n
    have hg : a.getD n 0 = a[n] := by simp [show n < a.length by omega]
    simp only [b64] at hx
    have hq0 : 0 ≤ (rest * 18446744073709551616 + a.getD n 0) / d := Int.ediv_nonneg (by omega) (by omega)
    have hq1 : (rest * 18446744073709551616 + a.getD n 0) / d < 18446744073709551616 := by
      apply Int.ediv_lt_of_lt_mul h0
      omega
    have hm0 := Int.emod_nonneg (rest * 18446744073709551616 + a.getD n 0) (show d ≠ 0 by omega)
    have hm1 := Int.emod_lt_of_pos (rest * 18446744073709551616 + a.getD n 0) h0
    have hm : (rest * 18446744073709551616 + a.getD n 0) % d + (rest * 18446744073709551616 + a.getD n 0) / d * d = rest * 18446744073709551616 + a.getD n 0 := by rw [Int.mul_comm (_ / d)]; exact Int.emod_add_mul_ediv _ _
    refine Evt.ite_pos (by omega) (Evt.ite_pos (by omega) (Evt.ite_pos (by omega) ?_))
    refine Evt.bind (bits_Div64_ev hr hx h1) ?_
    refine Evt.ite_pos (by omega) ?_
    rw [Int.toNat_natCast]
    refine ih _ _ (by omega) (by simpa using ho) (do_.set n ⟨hq0, hq1⟩) ⟨hm0, hm1⟩ ?_
    rw [drop_set_self _ _ _ (by omega), List.drop_eq_getElem_cons (show n < a.length by omega), ← hg]
    simp only [val, b64] at hv ⊢
    generalize (rest * 18446744073709551616 + a.getD n 0) / d = Q at *
    generalize (rest * 18446744073709551616 + a.getD n 0) % d = M at *
    generalize a.getD n 0 = x at *
    rw [← hv]
    generalize val _ (out.drop (n + 1)) = V at *
    have e : (Q + ((18446744073709551616 : Nat) : Int) * V) * d = Q * d + 18446744073709551616 * (V * d) := by
      rw [Int.add_mul, Int.mul_assoc]; rfl
    rw [e, Int.mul_add]
    omega
theorem nat_short_ev (a : List Int) (d : Int) (da : Dig (b64 : Int) a) (ha : a.length ≤ 100000) (h0 : 0 < d) (h1 : d < 18446744073709551616) :
    Evt (fun k => nat_short.f k a d) (limbs (num a / d.toNat), ((num a % d.toNat : Nat) : Int)) := by
  unfold nat_short.f
  refine Evt.ite_pos (by omega) (Evt.ite_pos (by omega) ?_)
  rw [Int.toNat_natCast, w64 (by omega) (by omega)]
  refine nat_short_loop a d da ha h0 h1 a.length _ 0 (Nat.le_refl _) (by simp) (Dig.replicate b64_pos _) ⟨by omega, h0⟩ ?_
  rw [List.drop_of_length_le (by simp), List.drop_of_length_le (by simp)]
  simp [val]
theorem mul_lt {x y : Int} (hx : 0 ≤ x ∧ x ≤ 65535) (hy : 0 ≤ y ∧ y ≤ 65535) : 0 ≤ x * y ∧ x * y ≤ 4294836225 := by
  have h1 := Int.mul_nonneg hx.1 hy.1
  have h2 : x * y ≤ 65535 * y := Int.mul_le_mul_of_nonneg_right hx.2 hy.1
  omega
theorem ref_mul_inner (a b : List Int) (da : Dig (b16 : Int) a) (db : Dig (b16 : Int) b) (ha : a.length ≤ 100000) (hb : b.length ≤ 100000) (i n : Nat) (hi : i < a.length) (hn : a.length - (i + 1) = n) {r : List Int}
    (next : ∀ p : List Int, p.length = i + 1 + b.length → Dig (b16 : Int) p → val (b16 : Int) p = val (b16 : Int) (a.take (i + 1)) * val (b16 : Int) b → Evt (fun k => windbreakref01_mul.l0 k a b (p ++ List.replicate n 0) ((i + 1 : Nat) : Int)) r) (m : Nat) :
    ∀ (j : Nat) (p : List Int) (c : Int), b.length - j = m → j ≤ b.length → p.length = i + b.length → Dig (b16 : Int) p → 0 ≤ c ∧ c < (b16 : Int) →
      val (b16 : Int) p + c * (b16 : Int) ^ (i + j) = val (b16 : Int) (a.take i) * val (b16 : Int) b + (b16 : Int) ^ i * a[i] * val (b16 : Int) (b.take j) →
      Evt (fun k => windbreakref01_mul.l1 k a b (p ++ List.replicate (n + 1) 0) (i : Int) c (j : Int)) r := by
  induction m with
  | zero =>
    intro j p c hj hjl hp dp hc hv
    refine Evt.succ ?_
    simp only [windbreakref01_mul.l1]
    refine Evt.ite_neg (by omega) ?_
    rw [w64 (show -9223372036854775808 ≤ (i : Int) + (b.length : Int) by omega) (by omega)]
    refine Evt.ite_pos (by omega) (Evt.ite_pos (by simp; omega) ?_)
    rw [w64 (by omega) (by omega), show ((i : Int) + (b.length : Int)).toNat = p.length from by omega, List.replicate_succ, set_at]
    have hj2 : j = b.length := by omega
    subst hj2
    rw [List.take_length] at hv
    refine (next (p ++ [c]) (by simp; omega) (Dig.append.2 ⟨dp, Dig.cons.2 ⟨hc, Dig.nil⟩⟩) ?_).congr (fun k => by rw [List.append_assoc]; rfl) rfl
    rw [val_append, hp, val_take_step (b16 : Int) a i hi]
    simp only [val, Int.mul_zero, Int.add_zero]
    generalize val (b16 : Int) (a.take i) = va at *
    generalize val (b16 : Int) b = vb at *
    generalize (b16 : Int) ^ (i + b.length) = P at *
    generalize (b16 : Int) ^ i = Q at *
    have : (va + Q * a[i]) * vb = va * vb + Q * a[i] * vb := by grind
    rw [this, ← hv, Int.mul_comm P c]
  | succ m ih =>
    intro j p c hj hjl hp dp hc hv
    have hjlt : j < b.length := by omega
    refine Evt.succ ?_
    simp only [windbreakref01_mul.l1]
    refine Evt.ite_pos (by omega) ?_
    rw [w64 (show -9223372036854775808 ≤ (i : Int) + (j : Int) by omega) (by omega)]
    refine Evt.ite_pos (by omega) (Evt.ite_pos (by simp; omega) (Evt.ite_pos (by omega) (Evt.ite_pos (by omega) (Evt.ite_pos (by omega) ?_))))
    have hx : rd a (i : Int) = a[i] := by simp [rd_nat, hi]
    have hy : rd b (j : Int) = b[j] := by simp [rd_nat, hjlt]
    have hz : rd (p ++ List.replicate (n + 1) 0) ((i : Int) + (j : Int)) = p.getD (i + j) 0 := by
      rw [rd_getD, show ((i : Int) + (j : Int)).toNat = i + j from by omega, getD_append_left (by omega)]
    have rx := da a[i] (List.getElem_mem hi)
    have ry := db b[j] (List.getElem_mem hjlt)
    have rz := dp.getD b16_pos (i + j)
    rw [hx, hy, hz, show ((i : Int) + (j : Int)).toNat = i + j from by omega, set_append_left (by omega)]
    have hB : (b16 : Int) = 65536 := rfl
    rw [hB] at rx ry rz hc
    obtain ⟨m1, m2⟩ := mul_lt (show 0 ≤ a[i] ∧ a[i] ≤ 65535 by omega) (show 0 ≤ b[j] ∧ b[j] ≤ 65535 by omega)
    have hv2 := val_set (b16 : Int) p (i + j) ((p.getD (i + j) 0 + a[i] * b[j] + c) % 65536) (by omega)
    have hvt := val_take_step (b16 : Int) b j hjlt
    generalize hxy : a[i] * b[j] = z at *
    rw [wu64_of m1 (by omega), wu64_of (show 0 ≤ p.getD (i + j) 0 + z by omega) (by omega), wu64_of (show 0 ≤ p.getD (i + j) 0 + z + c by omega) (by omega), Int.tmod_eq_emod_of_nonneg (by omega), Int.tdiv_eq_ediv_of_nonneg (by omega), wu64_of (by omega) (by omega), w64 (by omega) (by omega)]
    refine (ih (j + 1) (p.set (i + j) ((p.getD (i + j) 0 + z + c) % 65536)) ((p.getD (i + j) 0 + z + c) / 65536) (by omega) (by omega) (by simp; omega) (dp.set _ (by rw [hB]; omega)) (by rw [hB]; omega) ?_).congr (fun k => rfl) rfl
    rw [hv2, hvt]
    have hdm := Int.emod_add_mul_ediv (p.getD (i + j) 0 + z + c) 65536
    have hP : (b16 : Int) ^ (i + (j + 1)) = (b16 : Int) ^ (i + j) * 65536 := by rw [← Nat.add_assoc, Int.pow_succ]; rfl
    have hQ : (b16 : Int) ^ (i + j) = (b16 : Int) ^ i * (b16 : Int) ^ j := Int.pow_add ..
    rw [hP]
    generalize (p.getD (i + j) 0 + z + c) % 65536 = u at *
    generalize (p.getD (i + j) 0 + z + c) / 65536 = q at *
    generalize p.getD (i + j) 0 = y0 at *
    generalize val (b16 : Int) (a.take i) = va at *
    generalize val (b16 : Int) (b.take j) = vt at *
    generalize val (b16 : Int) b = vb at *
    generalize val (b16 : Int) p = vp at *
    generalize (b16 : Int) ^ (i + j) = P at *
    generalize (b16 : Int) ^ i = Q at *
    generalize (b16 : Int) ^ j = R at *
    subst hQ
    generalize a[i] = ai at *
    generalize b[j] = bj at *
    subst hxy
    have e1 : u = y0 + ai * bj + c - 65536 * q := by omega
    rw [e1]
    have e2 : vp = va * vb + Q * ai * vt - c * (Q * R) := by omega
    rw [e2]
    grind
theorem ref_mul_loop (a b : List Int) (da : Dig (b16 : Int) a) (db : Dig (b16 : Int) b) (ha : a.length ≤ 100000) (hb : b.length ≤ 100000) (n : Nat) :
    ∀ (i : Nat) (p : List Int), a.length - i = n → i ≤ a.length → p.length = i + b.length → Dig (b16 : Int) p → val (b16 : Int) p = val (b16 : Int) (a.take i) * val (b16 : Int) b →
      Evt (fun k => windbreakref01_mul.l0 k a b (p ++ List.replicate n 0) (i : Int)) (digs (num16 a * num16 b)) := by
  induction n with
  | zero =>
    intro i p hn hi hp dp hv
    refine Evt.succ ?_
    simp only [windbreakref01_mul.l0]
    refine Evt.ite_neg (by omega) ?_
    have h := windbreakref01_cut_ev (p ++ List.replicate 0 0) (by simp [maxLen]; omega)
    rw [List.replicate_zero, List.append_nil, strip_digs dp] at h
    have e : num16 p = num16 a * num16 b := by
      rw [List.take_of_length_le (by omega)] at hv
      have h1 := num16_val dp
      have h2 := num16_val da
      have h3 := num16_val db
      have : ((num16 p : Nat) : Int) = ((num16 a * num16 b : Nat) : Int) := by rw [h1, hv, Int.natCast_mul, h2, h3]
      omega
    rw [e] at h
    refine (Evt.bind h (h := fun t _ => some t) (Evt.pure _)).congr (fun k => by simp) rfl
  | succ n ih =>
    intro i p hn hi hp dp hv
    refine Evt.succ ?_
    simp only [windbreakref01_mul.l0]
    refine Evt.ite_pos (by omega) ?_
    refine ref_mul_inner a b da db ha hb i n (by omega) (by omega) (fun q h1 h2 h3 => ih (i + 1) q (by omega) (by omega) h1 h2 h3) b.length 0 p 0 (by omega) (by omega) hp dp (by decide) ?_
    simp [hv, val]
theorem ref_mul_ev (a b : List Int) (da : Dig (b16 : Int) a) (db : Dig (b16 : Int) b) (ha : a.length ≤ 100000) (hb : b.length ≤ 100000) : Evt (fun k => windbreakref01_mul.f k a b) (digs (num16 a * num16 b)) := by
  unfold windbreakref01_mul.f
  rw [w64 (show -9223372036854775808 ≤ (a.length : Int) + (b.length : Int) by omega) (by omega)]
  refine Evt.ite_pos (by omega) (Evt.ite_pos (by omega) ?_)
  refine (ref_mul_loop a b da db ha hb a.length 0 (List.replicate b.length 0) (by omega) (by omega) (by simp) (Dig.replicate b16_pos _) (by simp [val_replicate, val])).congr (fun k => ?_) rfl
  rw [show ((a.length : Int) + (b.length : Int)).toNat = b.length + a.length from by omega, List.replicate_append_replicate]
  rfl
theorem ref_power_loop (n : Nat) (hn : n ≤ 1000000) (m : Nat) : ∀ j : Nat, j ≤ n % 16 → n % 16 - j = m →
    Evt (fun k => windbreakref01_power.l0 k (n : Int) (List.replicate (n / 16) 0 ++ [2 ^ j]) (j : Int)) (List.replicate (n / 16) 0 ++ [2 ^ (n % 16)]) := by
  have e1 : Int.tmod (n : Int) 16 = ((n % 16 : Nat) : Int) := by rw [Int.tmod_eq_emod_of_nonneg (by omega)]; omega
  have e2 : Int.tdiv (n : Int) 16 = ((n / 16 : Nat) : Int) := by rw [Int.tdiv_eq_ediv_of_nonneg (by omega)]; omega
  induction m with
  | zero =>
    intro j hj hm
    refine Evt.succ ?_
    simp only [windbreakref01_power.l0]
    rw [e1]
    refine Evt.ite_neg (by omega) ?_
    rw [show n % 16 = j from by omega]
    exact Evt.pure _
  | succ m ih =>
    intro j hj hm
    refine Evt.succ ?_
    simp only [windbreakref01_power.l0]
    rw [e1, e2, w64 (show -9223372036854775808 ≤ ((n / 16 : Nat) : Int) by omega) (by omega)]
    refine Evt.ite_pos (by omega) (Evt.ite_pos (by omega) (Evt.ite_pos (by simp; omega) ?_))
    have hr : rd (List.replicate (n / 16) 0 ++ [2 ^ j]) ((n / 16 : Nat) : Int) = 2 ^ j := by
      rw [rd_nat]
      simp [List.getD_eq_getElem?_getD]
    have hb : (2 : Int) ^ j ≤ 2 ^ 16 := pow_mono (by omega) (by omega)
    have hp := pow2_pos j
    rw [hr, wu64_of (by omega) (by omega), w64 (by omega) (by omega)]
    refine (ih (j + 1) (by omega) (by omega)).congr (fun k => ?_) rfl
    have hs : (List.replicate (n / 16) (0 : Int) ++ [2 ^ j]).set ((n / 16 : Nat) : Int).toNat (2 ^ j * 2) = List.replicate (n / 16) 0 ++ [2 ^ (j + 1)] := by
      have := set_at (List.replicate (n / 16) (0 : Int)) (2 ^ j) (2 ^ j * 2) []
      rw [List.length_replicate] at this
      rw [Int.toNat_natCast, this, Int.pow_succ]
    rw [hs]
    rfl
theorem num16_power (n : Nat) : Dig (b16 : Int) (List.replicate (n / 16) 0 ++ [2 ^ (n % 16)]) ∧ Can (List.replicate (n / 16) 0 ++ [2 ^ (n % 16)]) ∧ num16 (List.replicate (n / 16) 0 ++ [2 ^ (n % 16)]) = 2 ^ n := by
  have hb : (2 : Int) ^ (n % 16) ≤ 2 ^ 15 := pow_mono (by omega) (by omega)
  have hp := pow2_pos (n % 16)
  have hd : Dig (b16 : Int) (List.replicate (n / 16) 0 ++ [2 ^ (n % 16)]) := Dig.append.2 ⟨Dig.replicate b16_pos _, Dig.cons.2 ⟨by simp only [b16]; omega, Dig.nil⟩⟩
  refine ⟨hd, ?_, ?_⟩
  · intro _
    simp
    omega
  · have h := num16_val hd
    rw [val_append, val_replicate] at h
    simp only [val, List.length_replicate, Int.mul_zero, Int.add_zero, Int.zero_add] at h
    have h2 : (b16 : Int) ^ (n / 16) * 2 ^ (n % 16) = 2 ^ n := by
      have : (b16 : Int) = 2 ^ 16 := by decide
      rw [this, ← Int.pow_mul, ← Int.pow_add, show 16 * (n / 16) + n % 16 = n from by omega]
    rw [h2] at h
    have h3 : ((2 : Int)) ^ n = ((2 ^ n : Nat) : Int) := by simp
    rw [h3] at h
    omega
theorem ref_power_ev (n : Nat) (hn : n ≤ 1000000) : Evt (fun k => windbreakref01_power.f k (n : Int)) (digs (2 ^ n)) := by
  unfold windbreakref01_power.f
  have e2 : Int.tdiv (n : Int) 16 = ((n / 16 : Nat) : Int) := by rw [Int.tdiv_eq_ediv_of_nonneg (by omega)]; omega
  rw [e2, w64 (show -9223372036854775808 ≤ ((n / 16 : Nat) : Int) by omega) (by omega), w64 (show -9223372036854775808 ≤ ((n / 16 : Nat) : Int) + 1 by omega) (by omega)]
  refine Evt.ite_pos (by omega) (Evt.ite_pos (by omega) ?_)
  rw [show (((n / 16 : Nat) : Int) + 1).toNat = n / 16 + 1 from by omega]
  simp only [Option.bind_some]
  refine Evt.ite_pos (by omega) (Evt.ite_pos (by simp; omega) ?_)
  obtain ⟨h1, h2, h3⟩ := num16_power n
  have h4 := digs_num h1 h2
  rw [h3] at h4
  rw [h4]
  refine (ref_power_loop n hn (n % 16) 0 (Nat.zero_le _) (by omega)).congr (fun k => ?_) rfl
  have hs : (List.replicate (n / 16 + 1) (0 : Int)).set ((n / 16 : Nat) : Int).toNat 1 = List.replicate (n / 16) 0 ++ [2 ^ 0] := by
    have := set_at (List.replicate (n / 16) (0 : Int)) 0 1 []
    rw [List.length_replicate] at this
    rw [Int.toNat_natCast, List.replicate_succ', this]
    rfl
  rw [hs]
  rfl
theorem dig_one16 {x : Int} (h : 0 ≤ x ∧ x < 65536) : Dig (b16 : Int) [x] := Dig.cons.2 ⟨h, Dig.nil⟩
theorem num16_one {x : Int} (h : 0 ≤ x) : num16 [x] = x.toNat := by simp [num16, val]
theorem ref_div_halve (a : List Int) (w X : Nat) (q : List Int) (i : Nat) (hw : 0 < w) (hwl : w * 65536 < lim) (hX : X < lim) {r : List Int × List Int} (hq : q.length = a.length) (hi : i < a.length)
    (next : ∀ d : Nat, d < 65536 → d * w ≤ X → X < (d + 1) * w → Evt (fun k => windbreakref01_div.l0 k a (digs w) (q.set i (d : Int)) (digs (X - d * w)) ((i : Int) - 1)) r) (ha : a.length ≤ 100000) (n : Nat) :
    ∀ lo hi_ : Nat, hi_ - lo = n → lo ≤ hi_ → hi_ ≤ 65535 → lo * w ≤ X → X < (hi_ + 1) * w →
      Evt (fun k => windbreakref01_div.l1 k a (digs w) q (digs X) (i : Int) (lo : Int) (hi_ : Int)) r := by
  have hwlim : w < lim := by omega
  have hwd := digs_len hwlim
  have mulm : ∀ m : Nat, m < 65536 → Evt (fun k => windbreakref01_mul.f k (digs w) [(m : Int)]) (digs (m * w)) := by
    intro m hm
    refine (ref_mul_ev (digs w) [(m : Int)] (toD_dig b16_two w) (dig_one16 (by omega)) (by omega) (by simp)).congr (fun k => rfl) ?_
    rw [num16_digs, num16_one (by omega), Int.toNat_natCast, Nat.mul_comm]
  induction n using Nat.strongRecOn with
  | _ n ih =>
    intro lo hi_ hn hle h5 hlo hhi
    refine Evt.succ ?_
    simp only [windbreakref01_div.l1]
    by_cases hlt : lo < hi_
    · refine Evt.ite_pos (by omega) ?_
      have em : IntKind.u64.wrap (Int.tdiv (IntKind.u64.wrap (IntKind.u64.wrap ((lo : Int) + (hi_ : Int)) + 1)) 2) = (((lo + hi_ + 1) / 2 : Nat) : Int) := by
        rw [wu64_of (show 0 ≤ (lo : Int) + (hi_ : Int) by omega) (by omega), wu64_of (show 0 ≤ (lo : Int) + (hi_ : Int) + 1 by omega) (by omega), Int.tdiv_eq_ediv_of_nonneg (by omega), wu64_of (by omega) (by omega)]
        omega
      rw [em]
      generalize hm : (lo + hi_ + 1) / 2 = m
      have hm1 : lo < m ∧ m ≤ hi_ := by omega
      refine Evt.bind (mulm m (by omega)) ?_
      have hmw : m * w < lim := by
        have : m * w ≤ 65536 * w := Nat.mul_le_mul_right w (by omega)
        rw [Nat.mul_comm] at hwl
        omega
      refine Evt.bind (ref_compare_ev (m * w) X hmw) ?_
      by_cases hc : m * w ≤ X
      · refine Evt.ite_pos ?_ ?_
        · unfold cmpN
          by_cases h1 : m * w < X
          · rw [if_pos h1]; omega
          · rw [if_neg h1, if_pos (by omega)]; omega
        · exact ih (hi_ - m) (by omega) m hi_ rfl (by omega) h5 hc hhi
      · refine Evt.ite_neg ?_ ?_
        · unfold cmpN
          rw [if_neg (by omega), if_neg (by omega)]; omega
        · have e : IntKind.u64.wrap ((m : Int) - 1) = ((m - 1 : Nat) : Int) := by rw [wu64_of (by omega) (by omega)]; omega
          rw [e]
          refine ih (m - 1 - lo) (by omega) lo (m - 1) rfl (by omega) (by omega) hlo ?_
          rw [show m - 1 + 1 = m from by omega]
          omega
    · refine Evt.ite_neg (by omega) (Evt.ite_pos (by omega) (Evt.ite_pos (by omega) ?_))
      have e : lo = hi_ := by omega
      subst e
      refine Evt.bind (mulm lo (by omega)) ?_
      refine Evt.bind (ref_sub_ev X (lo * w) hX hlo) ?_
      rw [w64 (by omega) (by omega)]
      refine (next lo (by omega) hlo hhi).congr (fun k => rfl) rfl
theorem ref_div_loop (a : List Int) (da : Dig (b16 : Int) a) (w : Nat) (hw : 0 < w) (hwl : w * 65536 < lim) (ha : a.length ≤ 100000) (hb : b16 ^ a.length ≤ lim) (n : Nat) :
    ∀ (Q : List Int) (R : Nat), Dig (b16 : Int) Q → Q.length = a.length - n → n ≤ a.length → R < w → num16 (a.drop n) = num16 Q * w + R →
      Evt (fun k => windbreakref01_div.l0 k a (digs w) (List.replicate n 0 ++ Q) (digs R) ((n : Int) - 1)) (digs (num16 a / w), digs (num16 a % w)) := by
  induction n with
  | zero =>
    intro Q R dQ hQ hn hR hv
    refine Evt.succ ?_
    simp only [windbreakref01_div.l0]
    refine Evt.ite_neg (by omega) ?_
    rw [List.replicate_zero, List.nil_append]
    rw [List.drop_zero] at hv
    have h := windbreakref01_cut_ev Q (by simp [maxLen]; omega)
    rw [strip_digs dQ] at h
    have e1 : num16 Q = num16 a / w := by
      rw [hv, Nat.mul_comm, Nat.mul_add_div hw, Nat.div_eq_of_lt hR, Nat.add_zero]
    have e2 : R = num16 a % w := by
      rw [hv, Nat.mul_comm, Nat.mul_add_mod, Nat.mod_eq_of_lt hR]
    rw [← e1, ← e2]
    exact Evt.bind h (h := fun t _ => some (t, digs R)) (Evt.pure _)
  | succ n ih =>
    intro Q R dQ hQ hn hR hv
    have hlt : n < a.length := by omega
    refine Evt.succ ?_
    simp only [windbreakref01_div.l0]
    rw [show ((n + 1 : Nat) : Int) - 1 = (n : Int) from by omega]
    refine Evt.ite_pos (by omega) (Evt.ite_pos (by omega) (Evt.ite_pos (by omega) ?_))
    simp only [Option.bind_some]
    have hx : rd a (n : Int) = a[n] := by simp [rd_nat, hlt]
    rw [hx]
    have rx := da a[n] (List.getElem_mem hlt)
    have hRl : R < lim := by omega
    have hRd := digs_len hRl
    refine Evt.ite_pos (by simp; omega) ?_
    have dX : Dig (b16 : Int) ([a[n]] ++ digs R) := Dig.cons.2 ⟨rx, toD_dig b16_two R⟩
    have hXn : num16 ([a[n]] ++ digs R) = a[n].toNat + 65536 * R := by
      have h1 := num16_val dX
      have h2 : val (b16 : Int) ([a[n]] ++ digs R) = a[n] + (b16 : Int) * val (b16 : Int) (digs R) := rfl
      rw [h2, val_toD b16_two] at h1
      simp only [b16] at h1 rx
      omega
    have h := windbreakref01_cut_ev ([a[n]] ++ digs R) (by simp [maxLen]; omega)
    rw [strip_digs dX, hXn] at h
    refine Evt.bind h ?_
    generalize hX : a[n].toNat + 65536 * R = X
    have hXw : X < 65536 * w := by
      simp only [b16] at rx
      have : 65536 * (R + 1) ≤ 65536 * w := Nat.mul_le_mul_left _ hR
      omega
    have hq1 : List.replicate (n + 1) (0 : Int) ++ Q = List.replicate n 0 ++ (0 :: Q) := by rw [List.replicate_succ', List.append_assoc]; rfl
    rw [hq1]
    refine ref_div_halve a w X _ n hw hwl (by rw [Nat.mul_comm] at hwl; omega) (by simp; omega) hlt ?_ ha 65535 0 65535 rfl (by omega) (by omega) (by omega) (by omega)
    intro d hd h1 h2
    have hs : (List.replicate n (0 : Int) ++ 0 :: Q).set n (d : Int) = List.replicate n 0 ++ ((d : Int) :: Q) := by
      have := set_at (List.replicate n (0 : Int)) 0 (d : Int) Q
      rw [List.length_replicate] at this
      exact this
    rw [hs]
    have dQ2 : Dig (b16 : Int) ((d : Int) :: Q) := Dig.cons.2 ⟨by simp only [b16]; omega, dQ⟩
    refine ih ((d : Int) :: Q) (X - d * w) dQ2 (by simp; omega) (by omega) ?_ ?_
    · rw [Nat.add_mul, Nat.one_mul] at h2
      omega
    · have dA : Dig (b16 : Int) (a.drop n) := da.drop n
      have g1 := num16_val dA
      have g2 := num16_val (da.drop (n + 1))
      have g3 := num16_val dQ2
      have g4 := num16_val dQ
      rw [List.drop_eq_getElem_cons hlt] at g1 ⊢
      simp only [val] at g1 g3
      rw [← g2] at g1
      rw [← g4] at g3
      rw [hv] at g1
      simp only [b16] at g1 g3 rx
      have g5 : num16 ((d : Int) :: Q) = d + 65536 * num16 Q := by omega
      rw [g5]
      generalize num16 Q = Qn at *
      have g6 : (d + 65536 * Qn) * w = d * w + 65536 * (Qn * w) := by rw [Nat.add_mul, Nat.mul_assoc]
      rw [g6]
      generalize Qn * w = z at *
      generalize d * w = y at *
      omega
theorem ref_div_ev (v w : Nat) (hv : v < lim) (hw : 0 < w) (hwl : w * 65536 < lim) : Evt (fun k => windbreakref01_div.f k (digs v) (digs w)) (digs (v / w), digs (v % w)) := by
  have hd := digs_len hv
  unfold windbreakref01_div.f
  refine Evt.ite_pos (by omega) (Evt.ite_pos (by omega) ?_)
  rw [w64 (by omega) (by omega)]
  have hb : b16 ^ (digs v).length ≤ lim := by
    have h : lim = b16 ^ (4 * thousand) := by
      unfold lim
      rw [b64_pow, ← Nat.pow_mul]
    rw [h]
    exact Nat.pow_le_pow_right (by decide) hd
  have h := ref_div_loop (digs v) (toD_dig b16_two v) w hw hwl (by omega) hb (digs v).length [] 0 Dig.nil (by simp) (Nat.le_refl _) hw (by rw [List.drop_length]; simp [num16_nil])
  rw [num16_digs] at h
  refine h.congr (fun k => ?_) rfl
  rw [List.append_nil, Int.toNat_natCast, show digs 0 = [] from toD_zero b16]
def shrW (a : List Int) (n : Int) : List Int × Int :=
  if rightB a = true ∧ 0 ≤ n then (limbs (num a / 2 ^ n.toNat), 0) else ([], 1)
theorem ref_Shr_ev (a : List Int) (n : Int) (ha : a.length ≤ maxLen) (da : Dig (b64 : Int) a) : Evt (fun k => windbreakref01_Shr.f k a n) (shrW a n) := by
  unfold windbreakref01_Shr.f shrW
  rw [windbreakref01_Right_eq ha]
  simp only [Option.bind_some]
  have J : ∀ x : Bool, (x = false → rightB a = true ∧ 0 ≤ n) → Evt (fun k => windbreakref01_Shr.j0 k a n x) (if x = true then ([], 1) else (limbs (num a / 2 ^ n.toNat), 0)) := by
    intro x hx
    refine Evt.succ ?_
    simp only [windbreakref01_Shr.j0]
    refine Evt.cond (fun _ => Evt.pure _) (fun hc => ?_)
    have h := hx (by simpa using hc)
    obtain ⟨h1, c1⟩ := (rightB_iff a).1 h.1
    obtain ⟨m, rfl⟩ := Int.eq_ofNat_of_zero_le h.2
    rw [Int.toNat_natCast]
    have hp := num_lt_p da h1
    by_cases hn : 4096 ≤ m
    · have e : num a / 2 ^ m = 0 := by
        apply Nat.div_eq_of_lt
        exact Nat.lt_of_lt_of_le hp (b64_le_pow2 (by omega))
      rw [e, show limbs 0 = [] from toD_zero b64]
      exact Evt.ite_pos (by omega) (Evt.pure _)
    · refine Evt.ite_neg (by omega) ?_
      have n2 := num_lt_lim da (by omega)
      refine Evt.bind (ref_In_ev a (by omega) da) (Evt.bind (ref_power_ev m (by omega)) ?_)
      refine Evt.bind (ref_div_ev (num a) (2 ^ m) n2 (Nat.pow_pos (by decide)) (pow2_lim (by omega))) ?_
      have h3 : num a / 2 ^ m ≤ num a := Nat.div_le_self _ _
      have h4 := ref_told_ev (num a / 2 ^ m) (Nat.lt_of_le_of_lt h3 n2)
      have e : toldV (num a / 2 ^ m) = (limbs (num a / 2 ^ m), 0) := if_pos (Nat.lt_of_le_of_lt h3 hp)
      rw [e] at h4
      exact Evt.bind h4 (h := fun t _ => some (t.1, t.2)) (Evt.pure _)
  cases hA : rightB a with
  | true =>
    refine Evt.ite_pos rfl ((J _ (fun h => ⟨hA, by simpa using h⟩)).congr (fun k => rfl) ?_)
    by_cases hn : n < 0
    · rw [decide_eq_true hn, if_pos rfl, if_neg (show ¬ (true = true ∧ 0 ≤ n) by omega)]
    · rw [decide_eq_false hn, if_neg (by simp), if_pos (show true = true ∧ 0 ≤ n from ⟨rfl, by omega⟩)]
  | false =>
    refine Evt.ite_neg (by simp) ((J _ (fun h => by simp at h)).congr (fun k => rfl) ?_)
    simp
theorem ref_Of_one (x : Int) (h : x ≠ 0) : windbreakref01_Of.f x = some [x] := by
  rw [ref_Of_eq]
  simp [strip, h]
theorem ref_May_ev (n : List Int) (hn : n.length ≤ maxLen) (dn : Dig (b64 : Int) n) : Evt (fun k => windbreakref07_May.f k n) (mayV n) := by
  unfold windbreakref07_May.f mayV
  rw [windbreakref01_Right_eq hn]
  simp only [Option.bind_some]
  cases hR : rightB n with
  | false => exact Evt.ite_neg (by simp) (Evt.pure _)
  | true =>
    refine Evt.ite_pos rfl ?_
    by_cases h8 : n.length ≤ 8
    · refine Evt.ite_pos (by omega) ?_
      have d3 : Dig (b64 : Int) [3] := dig_one (by omega) (by omega)
      refine Evt.bind (Evt.of (fun _ => ref_Of_one 3 (by omega))) ?_
      refine (Evt.bind (ref_Cmp_ev n [3] hn (by simp [maxLen]) dn d3) (h := fun t _ => some (decide (t ≥ 0))) (Evt.pure _)).congr (fun k => rfl) ?_
      unfold cmpW
      rw [if_pos ⟨hR, right_one (by omega)⟩, cmpN_ge, num_one (by omega)]
      simp [h8]
    · refine Evt.ite_neg (by omega) ((Evt.pure _).congr (fun k => rfl) ?_)
      simp [h8]
theorem ref_half_ev (n : List Int) (dn : Dig (b64 : Int) n) (hm : mayV n = true) : Evt (fun k => windbreakref07_half.f k n) (limbs (halfV n)) := by
  obtain ⟨hR, h8, h3⟩ := (mayV_iff n).1 hm
  have hlt := may_lt dn hm
  unfold windbreakref07_half.f
  have d1 : Dig (b64 : Int) [1] := dig_one (by omega) (by omega)
  refine Evt.bind (Evt.of (fun _ => ref_Of_one 1 (by omega))) ?_
  have hs := ref_Sub_ev n [1] (by simp only [maxLen]; omega) (by simp [maxLen]) dn d1
  unfold subW at hs
  rw [if_pos ⟨hR, right_one (by omega)⟩, num_one (by omega), if_neg (by omega)] at hs
  refine Evt.bind hs ?_
  have hlt2 : num n - (1 : Int).toNat < b64 ^ 64 := by omega
  have hh := ref_Shr_ev (limbs (num n - (1 : Int).toNat)) 1 (by have := limbs_le64 hlt2; simp only [maxLen]; omega) (dig_limbs' _)
  unfold shrW at hh
  rw [if_pos ⟨right_limbs' hlt2, by omega⟩, num_limbs] at hh
  exact Evt.bind hh (h := fun t _ => some t.1) (Evt.pure _)
theorem ref3_Right_eq (a : Bool) (l : List Int) (h : l.length ≤ maxLen) : windbreakref03_Right.f a l = some (intR a l) := by
  unfold windbreakref03_Right.f intR
  rw [windbreakref01_Right_eq h]
  cases hR : rightB l <;> cases a <;> simp
theorem ref3_From_eq (a : Bool) (l : List Int) (h : l.length ≤ 64) : windbreakref03_From.f a l = some (fromV a l) := by
  unfold windbreakref03_From.f fromV
  rw [windbreakref01_Right_eq (by simp only [maxLen]; omega)]
  simp only [Option.bind_some, List.nil_append, List.length_nil]
  rw [if_pos (show 0 + l.length < 17592186044416 by omega)]
  cases hR : rightB l with
  | false => simp
  | true =>
    by_cases h0 : l.length = 0
    · simp [h0]
    · have : ¬ l = [] := fun e => h0 (by rw [e]; rfl)
      simp [this]
theorem ref_Decode_ev (n v : List Int) (hn : n.length ≤ maxLen) (hv : v.length ≤ maxLen) (dn : Dig (b64 : Int) n) (dv : Dig (b64 : Int) v) : Evt (fun k => windbreakref07_Decode.f k n v) (decV n v) := by
  unfold windbreakref07_Decode.f decV
  refine Evt.bind (ref_May_ev n hn dn) ?_
  cases hm : mayV n with
  | false => exact Evt.ite_neg (by simp) ((Evt.pure _).congr (fun k => rfl) (by simp))
  | true =>
    obtain ⟨hRn, h8, h3⟩ := (mayV_iff n).1 hm
    have hlt := may_lt dn hm
    have hh : halfV n < b64 ^ 64 := by unfold halfV; omega
    have J : ∀ b : Bool, (b = false → rightB v = true ∧ num v < num n) → Evt (fun k => windbreakref07_Decode.j0 k n v b) (if b = true then (false, [], 10) else (if num v ≤ halfV n then ((fromV false v).1, (fromV false v).2, 0) else ((fromV true (limbs (num n - num v))).1, (fromV true (limbs (num n - num v))).2, 0))) := by
      intro b hb
      refine Evt.succ ?_
      simp only [windbreakref07_Decode.j0]
      refine Evt.cond (fun _ => Evt.pure _) (fun hc => ?_)
      obtain ⟨hR, hvn⟩ := hb (by simpa using hc)
      obtain ⟨hv1, cv⟩ := (rightB_iff v).1 hR
      refine Evt.bind (ref_half_ev n dn hm) ?_
      refine Evt.bind (ref_Cmp_ev v (limbs (halfV n)) hv (by have := limbs_le64 hh; simp only [maxLen]; omega) dv (dig_limbs' _)) ?_
      have hc2 : cmpW v (limbs (halfV n)) ≤ 0 ↔ num v ≤ halfV n := by
        unfold cmpW
        rw [if_pos ⟨hR, right_limbs' hh⟩, num_limbs]
        have := cmpN_le (num v) (halfV n)
        simp only [decide_eq_decide] at this
        exact this
      by_cases hf : num v ≤ halfV n
      · rw [if_pos hf]
        refine Evt.ite_pos (hc2.2 hf) ?_
        exact Evt.bind (Evt.of (fun _ => ref3_From_eq false v hv1)) (h := fun t _ => some (t.1, t.2, (0 : Int))) (Evt.pure _)
      · rw [if_neg hf]
        refine Evt.ite_neg (fun h => hf (hc2.1 h)) ?_
        have hs := ref_Sub_ev n v hn hv dn dv
        unfold subW at hs
        rw [if_pos ⟨hRn, hR⟩, if_neg (by omega)] at hs
        refine Evt.bind hs ?_
        exact Evt.bind (Evt.of (fun _ => ref3_From_eq true (limbs (num n - num v)) (limbs_le64 (Nat.lt_of_le_of_lt (Nat.sub_le _ _) hlt)))) (h := fun t _ => some (t.1, t.2, (0 : Int))) (Evt.pure _)
    refine Evt.ite_pos rfl ?_
    refine Evt.bind (Evt.of (fun _ => windbreakref01_Right_eq hv)) ?_
    cases hR : rightB v with
    | false =>
      refine Evt.ite_neg (by simp) ((J true (by simp)).congr (fun k => rfl) ?_)
      simp
    | true =>
      refine Evt.ite_pos rfl ?_
      refine Evt.bind (ref_Cmp_ev v n hv hn dv dn) ?_
      unfold cmpW
      rw [if_pos ⟨hR, hRn⟩, cmpN_ge]
      refine (J (decide (num n ≤ num v)) (fun h => ⟨hR, by simpa using h⟩)).congr (fun k => rfl) ?_
      by_cases hvn : num n ≤ num v
      · have : ¬ num v < num n := by omega
        simp [hvn, this]
      · have : num v < num n := by omega
        simp [hvn, this]
def shlW (a : List Int) (n : Int) : List Int × Int :=
  if rightB a = true ∧ 0 ≤ n then (if a.length = 0 then ([], 0) else if 4096 < n then ([], 4) else toldV (num a * 2 ^ n.toNat)) else ([], 1)
theorem ref_Shl_ev (a : List Int) (n : Int) (ha : a.length ≤ maxLen) (da : Dig (b64 : Int) a) : Evt (fun k => windbreakref01_Shl.f k a n) (shlW a n) := by
  unfold windbreakref01_Shl.f shlW
  rw [windbreakref01_Right_eq ha]
  simp only [Option.bind_some]
  have J : ∀ x : Bool, (x = false → rightB a = true ∧ 0 ≤ n) → Evt (fun k => windbreakref01_Shl.j0 k a n x) (if x = true then ([], 1) else if a.length = 0 then ([], 0) else if 4096 < n then ([], 4) else toldV (num a * 2 ^ n.toNat)) := by
    intro x hx
    refine Evt.succ ?_
    simp only [windbreakref01_Shl.j0]
    refine Evt.cond (fun _ => Evt.pure _) (fun hc => ?_)
    have h := hx (by simpa using hc)
    obtain ⟨h1, c1⟩ := (rightB_iff a).1 h.1
    by_cases h0 : a.length = 0
    · rw [if_pos h0]; exact Evt.ite_pos (by omega) (Evt.pure _)
    · rw [if_neg h0]
      refine Evt.ite_neg (by omega) ?_
      by_cases hn : 4096 < n
      · rw [if_pos hn]; exact Evt.ite_pos (by omega) (Evt.pure _)
      · rw [if_neg hn]
        refine Evt.ite_neg (by omega) ?_
        obtain ⟨m, rfl⟩ := Int.eq_ofNat_of_zero_le h.2
        have n2 := num_lt_lim da (by omega)
        have l1 := digs_len n2
        have l2 := digs_len (v := 2 ^ m) (by have := pow2_lim (n := m) (by omega); omega)
        refine Evt.bind (ref_In_ev a (by omega) da) (Evt.bind (ref_power_ev m (by omega)) ?_)
        have hm := ref_mul_ev (digs (num a)) (digs (2 ^ m)) (toD_dig b16_two _) (toD_dig b16_two _) (by omega) (by omega)
        rw [num16_digs, num16_digs] at hm
        refine Evt.bind hm ?_
        rw [Int.toNat_natCast]
        exact Evt.bind (ref_told_ev (num a * 2 ^ m) (mul_pow_lim da h1 (by omega))) (h := fun t _ => some (t.1, t.2)) (Evt.pure _)
  cases hA : rightB a with
  | true =>
    refine Evt.ite_pos rfl ((J _ (fun h => ⟨hA, by simpa using h⟩)).congr (fun k => rfl) ?_)
    by_cases hn : n < 0
    · rw [decide_eq_true hn, if_pos rfl, if_neg (show ¬ (true = true ∧ 0 ≤ n) by omega)]
    · rw [decide_eq_false hn, if_neg (by simp), if_pos (show true = true ∧ 0 ≤ n from ⟨rfl, by omega⟩)]
  | false =>
    refine Evt.ite_neg (by simp) ((J _ (fun h => by simp at h)).congr (fun k => rfl) ?_)
    simp
theorem r3_Right_s {a : Bool} {m : Nat} (hm : m < b64 ^ 64) (ha : a = true → m ≠ 0) : windbreakref03_Right.f a (limbs m) = some true := by
  rw [ref3_Right_eq _ _ (limbs_max hm), intR_s hm ha]
theorem r3_From {a : Bool} {m : Nat} (h : m < b64 ^ 64) : windbreakref03_From.f a (limbs m) = some (ofI (sI a m)) := by
  rw [ref3_From_eq a _ (limbs_le64 h), fromV_s h]
theorem strip_one_r {x : Int} (h0 : 0 ≤ x) (h1 : x < 18446744073709551616) : strip [x] = limbs x.toNat := by
  rw [strip_limbs (dig_one h0 h1), num_one h0]
theorem toldV_of_r {m : Nat} (h : m < b64 ^ 64) : toldV m = (limbs m, 0) := by
  unfold toldV
  rw [if_pos h]
theorem r3_Right_of {x : Int} (hx : x.natAbs < b64 ^ 64) : windbreakref03_Right.f (ofI x).1 (ofI x).2 = some true := r3_Right_s hx neg_abs
theorem r7_power_ev {s : Nat} (hs : s ≤ 64) : Evt (fun k => windbreakref07_power.f k (s : Int)) (ofI (2 ^ s)) := by
  unfold windbreakref07_power.f
  rw [ref_Of_eq, strip_one_r (by omega) (by omega)]
  simp only [Option.bind_some]
  have h2 : 2 ^ s ≤ b64 ^ 1 := pow2_le_b64 (by omega)
  have h3 : 2 ^ s < b64 ^ 64 := Nat.lt_of_le_of_lt h2 ((Nat.pow_lt_pow_iff_right (by decide)).2 (by decide))
  have h1 := ref_Shl_ev (limbs (1 : Int).toNat) (s : Int) (limbs_max (m := 1) (by decide)) (dig_limbs' _)
  unfold shlW at h1
  rw [if_pos ⟨right_limbs' (v := 1) (by decide), by omega⟩, num_limbs, Int.toNat_natCast, if_neg (fun e => by have := (limbs_nil_iff _).1 e; simp at this), if_neg (by omega)] at h1
  rw [show (1 : Int).toNat * 2 ^ s = 2 ^ s from Nat.one_mul _, toldV_of_r h3] at h1
  refine Evt.bind h1 (Evt.of (fun _ => ?_))
  rw [r3_From h3]
  have e : sI false (2 ^ s) = 2 ^ s := by simp [sI]
  rw [e]
  rfl
theorem ref_Div_ev (a b : List Int) (ha : a.length ≤ maxLen) (hb : b.length ≤ maxLen) (da : Dig (b64 : Int) a) (db : Dig (b64 : Int) b) : Evt (fun k => windbreakref01_Div.f k a b) (divV a b) := by
  unfold windbreakref01_Div.f divV
  rw [windbreakref01_Right_eq ha, windbreakref01_Right_eq hb]
  simp only [Option.bind_some]
  have J : ∀ x : Bool, (x = false → rightB a = true ∧ rightB b = true) → Evt (fun k => windbreakref01_Div.j0 k a b x) (if x = true then ([], [], 1) else (if num b = 0 then ([], [], 3) else (limbs (num a / num b), limbs (num a % num b), 0))) := by
    intro x hx
    refine Evt.succ ?_
    simp only [windbreakref01_Div.j0]
    refine Evt.cond (fun _ => Evt.pure _) (fun hc => ?_)
    have h := hx (by simpa using hc)
    obtain ⟨h1, c1⟩ := (rightB_iff a).1 h.1
    obtain ⟨h2, c2⟩ := (rightB_iff b).1 h.2
    have hz := num_zero_iff db c2
    by_cases h0 : b.length = 0
    · rw [if_pos (hz.2 h0)]
      exact Evt.ite_pos (by omega) (Evt.pure _)
    · have hnz : num b ≠ 0 := fun e => h0 (hz.1 e)
      rw [if_neg hnz]
      refine Evt.ite_neg (by omega) ?_
      have n1 := num_lt_p da h1
      have n2 := num_lt_p db h2
      have n3 := pow_lt_lim (n := 64) (by omega)
      have e1 : num a / num b ≤ num a := Nat.div_le_self _ _
      have e2 : num a % num b ≤ num a := Nat.mod_le _ _
      have n4 : num b * 65536 < lim := by
        have g1 : num b * 65536 < b64 ^ 64 * b64 := Nat.mul_lt_mul'' n2 (by decide)
        rw [← Nat.pow_succ] at g1
        exact Nat.lt_of_lt_of_le g1 (lim_pow (by omega))
      refine Evt.bind (ref_In_ev a (by omega) da) (Evt.bind (ref_In_ev b (by omega) db) ?_)
      refine Evt.bind (ref_div_ev (num a) (num b) (by omega) (by omega) n4) ?_
      refine Evt.bind (ref_Out_ev (num a / num b) (by omega)) ?_
      exact Evt.bind (ref_Out_ev (num a % num b) (by omega)) (h := fun t _ => some (limbs (num a / num b), t.1, (0 : Int))) (Evt.pure _)
  cases hA : rightB a with
  | true =>
    refine Evt.ite_pos rfl ((J _ (fun h => ⟨hA, by simpa using h⟩)).congr (fun k => rfl) ?_)
    cases hB : rightB b <;> simp
  | false =>
    refine Evt.ite_neg (by simp) ((J _ (fun h => by simp at h)).congr (fun k => rfl) ?_)
    simp
theorem r3_Floor_s {a : Bool} {m n : Nat} (hm : m < b64 ^ 30) (hn : n < b64 ^ 30) (ha : a = true → m ≠ 0) (h0 : 0 < n) : Evt (fun k => windbreakref03_Floor.f k a (limbs m) false (limbs n)) ((ofI (sI a m / (n : Int))).1, (ofI (sI a m / (n : Int))).2, (ofI (sI a m % (n : Int))).1, (ofI (sI a m % (n : Int))).2, 0) := by
  have km : m < b64 ^ 64 := Nat.lt_of_lt_of_le hm (Nat.pow_le_pow_right (by decide) (by decide))
  have kn : n < b64 ^ 64 := Nat.lt_of_lt_of_le hn (Nat.pow_le_pow_right (by decide) (by decide))
  have kq := div_lt_lim (n := n) hm
  have kq' : m / n < b64 ^ 64 := by omega
  have kr : m % n < b64 ^ 64 := Nat.lt_of_le_of_lt (Nat.mod_le _ _) km
  unfold windbreakref03_Floor.f
  rw [r3_Right_s km ha, r3_Right_s kn (by simp)]
  simp only [Option.bind_some, if_true]
  refine Evt.succ ?_
  simp only [windbreakref03_Floor.j0]
  refine Evt.ite_neg (by simp) ?_
  refine Evt.ite_neg (fun e => by have := (limbs_nil_iff n).1 (by omega); omega) (Evt.ite_neg (by simp) ?_)
  have h1 := ref_Div_ev (limbs m) (limbs n) (limbs_max km) (limbs_max kn) (dig_limbs' _) (dig_limbs' _)
  unfold divV at h1
  rw [if_pos ⟨right_limbs' km, right_limbs' kn⟩, num_limbs, num_limbs, if_neg (by omega)] at h1
  refine Evt.bind h1 ?_
  cases a with
  | false =>
    refine Evt.ite_neg (by simp) (Evt.of (fun _ => ?_))
    rw [r3_From kq', r3_From kr]
    rfl
  | true =>
    refine Evt.ite_pos rfl ?_
    have hf := floor_neg (m := m) h0
    by_cases hr : m % n = 0
    · refine Evt.ite_pos (by rw [hr, limbs_zero]; rfl) (Evt.of (fun _ => ?_))
      rw [r3_From kq']
      rw [if_pos hr, if_pos hr] at hf
      rw [show sI true m = -(m : Int) from rfl]
      rw [hf.1, hf.2, ofI_zero]
      rfl
    · refine Evt.ite_neg (fun e => hr ((limbs_nil_iff (m % n)).1 (by simpa using e))) ?_
      refine Evt.bind (Evt.of (fun _ => ref_Of_eq 1)) ?_
      rw [strip_one_r (by omega) (by omega)]
      have h2 := ref_Add_ev (limbs (m / n)) (limbs (1 : Int).toNat) (limbs_max kq') (limbs_max (m := 1) (by decide)) (dig_limbs' _) (dig_limbs' _)
      unfold addW at h2
      rw [if_pos ⟨right_limbs' kq', right_limbs' (v := 1) (by decide)⟩, num_limbs, num_limbs, show (1 : Int).toNat = 1 from rfl, toldV_of_r kq] at h2
      refine Evt.bind h2 (Evt.ite_pos rfl ?_)
      have h3 := ref_Sub_ev (limbs n) (limbs (m % n)) (limbs_max kn) (limbs_max kr) (dig_limbs' _) (dig_limbs' _)
      unfold subW at h3
      have hlt := Nat.mod_lt m h0
      rw [if_pos ⟨right_limbs' kn, right_limbs' kr⟩, num_limbs, num_limbs, if_neg (by omega)] at h3
      refine Evt.bind h3 (Evt.of (fun _ => ?_))
      rw [r3_From kq, r3_From (Nat.lt_of_le_of_lt (Nat.sub_le _ _) kn)]
      rw [if_neg hr, if_neg hr] at hf
      rw [show sI true m = -(m : Int) from rfl]
      rw [hf.1, hf.2]
      rfl
theorem r3_Floor_ev {x y : Int} (hx : SmI x) (hy : SmI y) (h0 : 0 < y) : Evt (fun k => windbreakref03_Floor.f k (ofI x).1 (ofI x).2 (ofI y).1 (ofI y).2) ((ofI (x / y)).1, (ofI (x / y)).2, (ofI (x % y)).1, (ofI (x % y)).2, 0) := by
  have h := r3_Floor_s (a := decide (x < 0)) (m := x.natAbs) (n := y.natAbs) hx hy neg_abs (by omega)
  rw [sI_of, show ((y.natAbs : Nat) : Int) = y by omega] at h
  have e : (ofI y).1 = false := decide_eq_false (by omega)
  rw [e]
  exact h
theorem r3_Small_ev {x : Int} (hx : SmI x) : Evt (fun k => windbreakref03_Small.f k (ofI x).1 (ofI x).2) (smI x) := by
  have hb : b64 = 18446744073709551616 := rfl
  unfold windbreakref03_Small.f
  rw [r3_Right_of hx.lt]
  simp only [Option.bind_some, if_true]
  refine Evt.bind (windbreakref01_Small_ev _ (limbs_max hx.lt)) ?_
  have es : smallV (ofI x).2 = if x.natAbs < b64 then ((x.natAbs : Int), true) else (0, false) := small_limbs hx.lt
  rw [es]
  have ex : (ofI x).1 = decide (x < 0) := rfl
  have J : ∀ (v : Int) (b : Bool) (r : Int × Bool), r = (if b = true then (0, false) else (if (ofI x).1 = true then (wrap64 ((wrap64 (-(wrap64 (IntKind.u64.wrap (v - 1))))) - 1), true) else (wrap64 v, true))) → Evt (fun k => windbreakref03_Small.j0 k v b (ofI x).1 (ofI x).2) r := by
    intro v b r hr
    subst hr
    refine Evt.succ ?_
    simp only [windbreakref03_Small.j0]
    exact Evt.cond (fun _ => Evt.pure _) (fun _ => Evt.cond (fun _ => Evt.pure _) (fun _ => Evt.pure _))
  rw [hb]
  by_cases hbig : x.natAbs < 18446744073709551616
  · rw [if_pos hbig]
    refine Evt.ite_pos rfl ?_
    by_cases hn : x < 0
    · refine Evt.ite_pos (by rw [ex]; exact decide_eq_true hn) (J _ _ _ ?_)
      rw [ex, decide_eq_true hn, smI_of]
      by_cases hin : -9223372036854775808 ≤ x
      · rw [if_pos ⟨hin, by omega⟩, if_neg (by simp; omega), if_pos rfl]
        congr 1
        rw [wu64]
        unfold wrap64
        omega
      · rw [if_neg (fun e => by omega), if_pos (by simp; omega)]
    · refine Evt.ite_neg (by rw [ex]; simpa using hn) ?_
      rw [smI_of]
      by_cases hin : x < 9223372036854775808
      · refine Evt.ite_neg (by show ¬ ((x.natAbs : Nat) : Int) > _; omega) (J _ _ _ ?_)
        rw [ex, decide_eq_false hn, if_pos ⟨by omega, hin⟩, if_neg (by simp), if_neg (by simp)]
        congr 1
        show x = wrap64 ((x.natAbs : Nat) : Int)
        unfold wrap64
        omega
      · refine Evt.ite_pos (by show ((x.natAbs : Nat) : Int) > _; omega) (J _ _ _ ?_)
        rw [if_neg (fun e => by omega), if_pos rfl]
  · rw [if_neg hbig]
    refine Evt.ite_neg (by simp) (J _ _ _ ?_)
    rw [smI_of, if_neg (fun e => by omega), if_pos rfl]
theorem ref_Unpack_ev (n : List Int) (s : Int) (v : List Int) (hn : n.length ≤ maxLen) (dn : Dig (b64 : Int) n) (hv : v.length ≤ maxLen) (dv : Dig (b64 : Int) v) : Evt (fun k => windbreakref07_Unpack.f k n s v) (unpackV n s v) := by
  unfold windbreakref07_Unpack.f unpackV
  refine Evt.bind (ref_May_ev n hn dn) ?_
  have J : ∀ b : Bool, (b = false → mayV n = true ∧ 1 ≤ s ∧ s ≤ 62) → Evt (fun k => windbreakref07_Unpack.j0 k n s v b) (if b = true then (0, 0, 1) else (if rightB v = true ∧ num v < num n then (if -9223372036854775808 ≤ decI n v / 2 ^ s.toNat ∧ decI n v / 2 ^ s.toNat < 9223372036854775808 then (decI n v / 2 ^ s.toNat, decI n v % 2 ^ s.toNat, 0) else (0, 0, 12)) else (0, 0, 10))) := by
    intro b hb
    refine Evt.succ ?_
    simp only [windbreakref07_Unpack.j0]
    refine Evt.cond (fun _ => Evt.pure _) (fun hc => ?_)
    obtain ⟨hm, h1, h2⟩ := hb (by simpa using hc)
    obtain ⟨q, rfl⟩ : ∃ q : Nat, s = (q : Int) := ⟨s.toNat, by omega⟩
    rw [Int.toNat_natCast]
    refine Evt.bind (ref_Decode_ev n v hn hv dn dv) ?_
    rw [decV_eq dn dv hm]
    by_cases hR : rightB v = true ∧ num v < num n
    · rw [if_pos hR, if_pos hR]
      refine Evt.ite_pos rfl ?_
      have z0 := decI_sz dn hm hR.2
      have hp : (0 : Int) < 2 ^ q := Int.pow_pos (by omega)
      refine Evt.bind (r7_power_ev (by omega)) ?_
      refine Evt.bind (r3_Floor_ev (z0.smI (by omega)) ((Sz.pow (s := q) (by omega)).smI (by omega)) hp) ?_
      have z1 := Sz.ediv z0 hp
      refine Evt.bind (r3_Small_ev (z1.smI (by omega))) ?_
      rw [smI_of]
      by_cases hin : -9223372036854775808 ≤ decI n v / 2 ^ q ∧ decI n v / 2 ^ q < 9223372036854775808
      · rw [if_pos hin, if_pos hin]
        refine Evt.ite_pos rfl ?_
        obtain ⟨m0, m1⟩ := mod_pow_i64 (decI n v) (q := q) (by omega)
        have h4 := r3_Small_ev ((Sz.i64 (x := decI n v % 2 ^ q) (by omega) m1).smI (by omega))
        rw [smI_of, if_pos ⟨by omega, m1⟩] at h4
        exact Evt.bind h4 (h := fun t _ => some (decI n v / 2 ^ q, t.1, (0 : Int))) (Evt.pure _)
      · rw [if_neg hin, if_neg hin]
        exact Evt.ite_neg (by simp) (Evt.pure _)
    · rw [if_neg hR, if_neg hR]
      exact Evt.ite_neg (by simp) (Evt.pure _)
  cases hm : mayV n with
  | false =>
    refine Evt.ite_neg (by simp) ((J true (by simp)).congr (fun k => rfl) ?_)
    simp
  | true =>
    refine Evt.ite_pos rfl ?_
    by_cases h1 : s < 1
    · refine Evt.ite_pos h1 ((J true (by simp)).congr (fun k => rfl) ?_)
      rw [if_pos rfl, if_neg (fun e => absurd e.2.1 (by omega))]
    · refine Evt.ite_neg h1 ((J _ (fun e => ⟨hm, by omega, by simpa using e⟩)).congr (fun k => rfl) ?_)
      have h1' : 1 ≤ s := by omega
      by_cases h2 : s ≤ 62
      · have h3 : ¬ s > 62 := by omega
        simp [h1', h2, h3]
      · have h3 : s > 62 := by omega
        simp [h2, h3]
end Go.Proofs.Ytnaphgnkhhapoab.Z
end
section
namespace Go.Proofs.Ytnaphgnkhhapoab.F
open Go.RowKit Go.Proofs.YtnaphgnkhhapoabW.PrintWords Go.Proofs.YtnaphgnkhhapoabW.PrintLast Go.Proofs.YtnaphgnkhhapoabW.PrintMore
attribute [local go_sem] max2_int min2_int max_two min_two max_three min_three max_four min_four
set_option linter.unusedVariables false
set_option linter.unusedSimpArgs false
open Go.Proofs.Ytnaphgnkhhapoab.Z (strip)
end Go.Proofs.Ytnaphgnkhhapoab.F
end
section
namespace Go.Proofs.Ytnaphgnkhhapoab.F
open Go.RowKit Go.Proofs.YtnaphgnkhhapoabW.PrintWords Go.Proofs.YtnaphgnkhhapoabW.PrintLast Go.Proofs.YtnaphgnkhhapoabW.PrintMore
theorem max2_mx (k k' : IntKind) (x y : Int) : Builtin.max2 (.int k x) (.int k' y) = pure (.int k (max x y)) := by
  rw [max2_int]
  congr 2
  by_cases h : x < y
  · rw [if_pos h]; omega
  · rw [if_neg h]; omega
attribute [local go_sem] max2_mx max_two
set_option linter.unusedVariables false
set_option linter.unusedSimpArgs false
open Go.Proofs.Ytnaphgnkhhapoab.Z (strip Dig b64 num limbs)
end Go.Proofs.Ytnaphgnkhhapoab.F
end
section
namespace Go.Proofs.Ytnaphgnkhhapoab.F
open Go.RowKit Go.Proofs.YtnaphgnkhhapoabW.PrintWords Go.Proofs.YtnaphgnkhhapoabW.PrintLast Go.Proofs.YtnaphgnkhhapoabW.PrintMore
set_option linter.unusedVariables false
set_option linter.unusedSimpArgs false
open Go.Proofs.Ytnaphgnkhhapoab.Z (Dig b64 num limbs)
theorem run_store_func {P : Program} {w : World} {a : Addr} (f : Fn) (x y : Array Value) {m : Mode} : (store a (.func f x y) m).run P w = stored P w a (.func f x y) m := run_store P w a _ m rfl
attribute [local go_sem] run_store_func
def limbB (l : List Int) : Bool := l.all fun x => decide (0 ≤ x ∧ x < 18446744073709551616)
def nat_product.f (l0 l1 : List Int) : Option (List Int) := if (decide (l0.length ≤ 400) && decide (l1.length ≤ 400) && limbB l0 && limbB l1) = true then some (limbs (num l0 * num l1)) else none
end Go.Proofs.Ytnaphgnkhhapoab.F
end
section
namespace Go.Proofs.Ytnaphgnkhhapoab.F
open Go.RowKit Go.Proofs.YtnaphgnkhhapoabW.PrintWords Go.Proofs.YtnaphgnkhhapoabW.PrintLast Go.Proofs.YtnaphgnkhhapoabW.PrintMore
attribute [local go_sem] max2_int min2_int max_two min_two max_three min_three max_four min_four
set_option linter.unusedVariables false
set_option linter.unusedSimpArgs false
def nat_Mul.f (k : Nat) (l0 : List Int) (l1 : List Int) : Option (List Int × Int) := (nat_right.f (([l0, l1] : List (List Int)))).bind fun t843 => (if t843 = true then ((nat_product.f l0 l1).bind fun t844 => ((nat_told.f k t844).bind fun bt847 => (some (bt847.1, bt847.2)))) else (some (([] : List Int), 1)))
def modint_Mul.f (k : Nat) (a0_0 : Bool) (l0_1 : List Int) (a1_0 : Bool) (l1_1 : List Int) : Option (Bool × List Int × Int) := (modint_right.f (([(⟨a0_0, l0_1⟩ : S44), (⟨a1_0, l1_1⟩ : S44)] : List (S44)))).bind fun t857 => (if t857 = true then ((nat_Mul.f k l0_1 l1_1).bind fun bt858 => ((modint_From.f (a0_0 != a1_0) bt858.1).bind fun bt862 => (some (bt862.1, bt862.2, bt858.2)))) else (some (false, ([] : List Int), 1)))
end Go.Proofs.Ytnaphgnkhhapoab.F
end
section
namespace Go.Proofs.Ytnaphgnkhhapoab.Z
open Go.RowKit Go.Proofs.Ytnaphgnkhhapoab.F Go.Proofs.YtnaphgnkhhapoabW.PrintWords
set_option linter.unusedSimpArgs false
set_option linter.unusedVariables false
theorem mi_right_eq (a : Bool) (l : List Int) (b : Bool) (m : List Int) (hl : l.length ≤ maxLen) (hm : m.length ≤ maxLen) : modint_right.f [⟨a, l⟩, ⟨b, m⟩] = some (intR a l && intR b m) := by
  simp only [modint_right.f, modint_Right_eq a l hl, modint_Right_eq b m hm, Option.bind_some]
  cases intR a l <;> cases intR b m <;> simp
theorem mi_right_s {a b : Bool} {m n : Nat} (hm : m < b64 ^ 64) (hn : n < b64 ^ 64) (ha : a = true → m ≠ 0) (hb : b = true → n ≠ 0) : modint_right.f [⟨a, limbs m⟩, ⟨b, limbs n⟩] = some true := by
  rw [mi_right_eq _ _ _ _ (limbs_max hm) (limbs_max hn), intR_s hm ha, intR_s hn hb]
  rfl
theorem mi_From {a : Bool} {m : Nat} (h : m < b64 ^ 64) : modint_From.f a (limbs m) = some (ofI (sI a m)) := by
  rw [modint_From_eq a _ (limbs_le64 h), fromV_s h]
theorem strip_one {x : Int} (h0 : 0 ≤ x) (h1 : x < 18446744073709551616) : strip [x] = limbs x.toNat := by
  rw [strip_limbs (dig_one h0 h1), num_one h0]
theorem b64_lt_pow {m : Nat} (h : m < b64) : m < b64 ^ 64 := Nat.lt_of_lt_of_le h (Nat.le_self_pow (by decide) b64)
theorem mi_Of_ev {x : Int} (h0 : -9223372036854775808 ≤ x) (h1 : x < 9223372036854775808) : Evt (fun k => modint_Of.f k x) (ofI x) := by
  have hb : b64 = 18446744073709551616 := rfl
  unfold modint_Of.f
  by_cases h : x < 0
  · refine Evt.ite_pos h ?_
    have e : IntKind.u64.wrap (-(IntKind.u64.wrap x)) = ((x.natAbs : Nat) : Int) := by rw [wu64, wu64]; omega
    rw [e]
    refine Evt.bind (nat_Of_ev _) ?_
    rw [strip_one (by omega) (by omega), Int.toNat_natCast]
    refine (Evt.of (fun _ => ?_))
    rw [mi_From (b64_lt_pow (by omega))]
    simp only [Option.bind_some, sI, if_true]
    rw [show -((x.natAbs : Nat) : Int) = x by omega]
  · refine Evt.ite_neg h ?_
    have e : IntKind.u64.wrap x = ((x.natAbs : Nat) : Int) := by rw [wu64]; omega
    rw [e]
    refine Evt.bind (nat_Of_ev _) ?_
    rw [strip_one (by omega) (by omega), Int.toNat_natCast]
    refine (Evt.of (fun _ => ?_))
    rw [mi_From (b64_lt_pow (by omega))]
    simp only [Option.bind_some, sI]
    rw [if_neg (by simp), show ((x.natAbs : Nat) : Int) = x by omega]
theorem toldV_of {m : Nat} (h : m < b64 ^ 64) : toldV m = (limbs m, 0) := by
  unfold toldV
  rw [if_pos h]
theorem times2_ev {x : Int} {s : Nat} (hx : SmI x) (hs : s ≤ 64) : Evt (fun k => fixenc_times2.f k (ofI x).1 (ofI x).2 (s : Int)) (ofI (x * 2 ^ s)) := by
  unfold fixenc_times2.f
  have h2 : 2 ^ s ≤ b64 ^ 1 := pow2_le_b64 (by omega)
  have h3 : 2 ^ s < b64 ^ 30 := Nat.lt_of_le_of_lt h2 ((Nat.pow_lt_pow_iff_right (by decide)).2 (by decide))
  have hp := SmI.prod hx h3
  have h1 := nat_Shl_ev (limbs x.natAbs) (s : Int) (limbs_max hx.lt) (dig_limbs' _)
  unfold shlV at h1
  rw [if_pos ⟨right_limbs' hx.lt, by omega⟩, num_limbs, Int.toNat_natCast] at h1
  have h4 : (if (limbs x.natAbs).length = 0 then (([] : List Int), (0 : Int)) else if 4096 < (s : Int) then ([], 4) else toldV (x.natAbs * 2 ^ s)) = (limbs (x.natAbs * 2 ^ s), 0) := by
    by_cases h0 : x.natAbs = 0
    · rw [if_pos ((limbs_nil_iff _).2 h0), h0, Nat.zero_mul, limbs_zero]
    · rw [if_neg (fun e => h0 ((limbs_nil_iff _).1 e)), if_neg (by omega), toldV_of hp]
  rw [h4] at h1
  refine Evt.bind h1 (Evt.of (fun _ => ?_))
  rw [mi_From hp, sI_pow]
  have e : sI (ofI x).1 x.natAbs = x := sI_of x
  rw [e]
  rfl
end Go.Proofs.Ytnaphgnkhhapoab.Z
end
section
namespace Go.Proofs.Ytnaphgnkhhapoab.Z
open Go.RowKit Go.Proofs.Ytnaphgnkhhapoab.F Go.Proofs.YtnaphgnkhhapoabW.PrintWords Go.Proofs.YtnaphgnkhhapoabW.PrintMore
set_option linter.unusedSimpArgs false
set_option linter.unusedVariables false
theorem limbs_dig' (v : Nat) : Dig (b64 : Int) (limbs v) := toD_dig b64_two v
theorem limbs_can' (v : Nat) : Can (limbs v) := toD_can b64_two v
theorem limbs_len' {v n : Nat} (h : v < b64 ^ n) : (limbs v).length ≤ n := toD_len_le b64_two h
theorem pow_pos64' (n : Nat) : 0 < b64 ^ n := Nat.pow_pos (by decide)
theorem num_strip' {l : List Int} (d : Dig (b64 : Int) l) : num (strip l) = num l := by rw [strip_limbs d, num_limbs]
theorem vdrop (B : Int) (a : List Int) (j : Nat) : val B (a.drop j) = a.getD j 0 + B * val B (a.drop (j + 1)) := by
  by_cases h : j < a.length
  · rw [List.drop_eq_getElem_cons h]
    simp [val, List.getD_eq_getElem?_getD, h]
  · rw [List.drop_of_length_le (by omega), List.drop_of_length_le (by omega)]
    simp [val, List.getD_eq_getElem?_getD, Nat.le_of_not_lt h]
theorem vsplit (B : Int) (a : List Int) (j : Nat) (hj : j ≤ a.length) : val B a = val B (a.take j) + B ^ j * val B (a.drop j) := by
  have := val_append B (a.take j) (a.drop j)
  rw [List.take_append_drop, List.length_take, Nat.min_eq_left hj] at this
  exact this
theorem clone_ev (l : List Int) (h : l.length ≤ 100000) : api_Nat_uint64.f l = some l := by
  unfold api_Nat_uint64.f
  simp only [Option.bind_some, List.nil_append, List.length_nil]
  rw [if_pos (by omega)]
theorem long_l2 (a q : List Int) (da : Dig (b64 : Int) a) (ha : a.length ≤ 100000) (hq : q.length ≤ 100000) (s : Nat) (hs : s < 64) (n : Nat) :
    ∀ (i : Nat) (p : List Int), a.length - i = n → i ≤ a.length → p.length = i → p ++ downL s (a.drop i) = downL s a →
      Evt (fun k => nat_long.l2 k (s : Int) q a (p ++ List.replicate n 0) (a.length : Int) (i : Int)) (strip q, strip (downL s a)) := by
  induction n with
  | zero =>
    intro i p hn hi hp he
    refine Evt.succ ?_
    simp only [nat_long.l2]
    refine Evt.ite_neg (by omega) ?_
    rw [List.drop_of_length_le (by omega)] at he
    simp only [downL, List.append_nil] at he
    rw [List.replicate_zero, List.append_nil, he]
    have hdl := (downL_facts s hs a da).2.1
    exact Evt.bind (nat_trim_ev q (by simp [maxLen]; omega)) (Evt.bind (nat_trim_ev (downL s a) (by simp [maxLen]; omega)) (h := fun t _ => some (strip q, t)) (Evt.pure _))
  | succ n ih =>
    intro i p hn hi hp he
    have hlt : i < a.length := by omega
    have rx := da a[i] (List.getElem_mem hlt)
    have ry := (da.drop (i + 1)).getD b64_pos 0
    have hB : (b64 : Int) = 18446744073709551616 := rfl
    rw [hB] at rx ry
    rw [List.drop_eq_getElem_cons hlt] at he
    simp only [downL] at he
    have hx : rd a (i : Int) = a[i] := by simp [rd_nat, hlt]
    refine Evt.succ ?_
    simp only [nat_long.l2]
    refine Evt.ite_pos (by omega) (Evt.ite_pos (by omega) (Evt.ite_pos (by omega) (Evt.ite_pos (by omega) (Evt.ite_pos (by simp; omega) ?_))))
    refine Evt.bind (Evt.pure _) ?_
    rw [hx, shr_u64 _ s (by omega), show ((i : Int)).toNat = p.length from by omega, List.replicate_succ, set_at, w64 (show -9223372036854775808 ≤ (i : Int) + 1 by omega) (by omega)]
    have hps := pow2_pos s
    have hxd0 : 0 ≤ a[i] / 2 ^ s := Int.ediv_nonneg rx.1 (by omega)
    by_cases h0 : s = 0
    · refine Evt.ite_neg (by omega) ?_
      rw [if_pos h0, Int.add_zero] at he
      refine (ih (i + 1) (p ++ [a[i] / 2 ^ s]) (by omega) (by omega) (by simp; omega) (by rw [List.append_assoc]; exact he)).congr (fun k => ?_) rfl
      rw [List.append_assoc]; rfl
    · refine Evt.ite_pos (by omega) ?_
      rw [if_neg h0] at he
      by_cases h1 : i + 1 < a.length
      · refine Evt.ite_pos (by omega) (Evt.ite_pos (by omega) (Evt.ite_pos (by rw [wu64_of (by omega) (by omega)]; omega) ?_))
        have hy : rd a ((i : Int) + 1) = a[i + 1] := by
          rw [show (i : Int) + 1 = ((i + 1 : Nat) : Int) from by omega, rd_nat]
          simp [List.getD_eq_getElem?_getD, h1]
        have hy2 : (a.drop (i + 1)).getD 0 0 = a[i + 1] := by simp [List.getD_eq_getElem?_getD, h1]
        have hg : rd (p ++ a[i] / 2 ^ s :: List.replicate n 0) (i : Int) = a[i] / 2 ^ s := by
          rw [rd_nat]
          simp [List.getD_eq_getElem?_getD, ← hp]
        rw [hy2] at he ry
        obtain ⟨f1, f2, f3, f4⟩ := shl_facts ry (s := 64 - s) (by omega)
        have hxd1 : a[i] / 2 ^ s < 2 ^ (64 - s) := by
          apply Int.ediv_lt_of_lt_mul hps
          rw [Int.mul_comm, pow64_split (by omega)]
          exact rx.2
        have hz0 : 0 ≤ (a[i + 1] * 2 ^ (64 - s)) % 18446744073709551616 := by omega
        have hz1 : (a[i + 1] * 2 ^ (64 - s)) % 18446744073709551616 < 18446744073709551616 := by omega
        have hq64 : (2 : Int) ^ (64 - s) ≤ 2 ^ 64 := pow_mono (by omega) (by omega)
        rw [hy, hg, wu64_of (show (0 : Int) ≤ 64 - (s : Int) by omega) (by omega), show (64 : Int) - (s : Int) = ((64 - s : Nat) : Int) from by omega, shl_u64 _ (64 - s) (by omega), set_at, or_comm_u64 hxd0 (by omega) hz0 hz1, or_u64 (64 - s) (by omega) hz0 f2 hz1 hxd0 hxd1]
        refine (ih (i + 1) (p ++ [(a[i + 1] * 2 ^ (64 - s)) % 18446744073709551616 + a[i] / 2 ^ s]) (by omega) (by omega) (by simp; omega) (by rw [List.append_assoc, Int.add_comm ((a[i + 1] * 2 ^ (64 - s)) % 18446744073709551616)]; exact he)).congr (fun k => ?_) rfl
        rw [List.append_assoc]; rfl
      · refine Evt.ite_neg (by omega) ?_
        have hy2 : (a.drop (i + 1)).getD 0 0 = 0 := by rw [List.drop_of_length_le (by omega)]; rfl
        rw [hy2, Int.zero_mul, Int.zero_emod, Int.add_zero] at he
        refine (ih (i + 1) (p ++ [a[i] / 2 ^ s]) (by omega) (by omega) (by simp; omega) (by rw [List.append_assoc]; exact he)).congr (fun k => ?_) rfl
        rw [List.append_assoc]; rfl
theorem long_l1 (r d q part sN : List Int) (s dk gs : Int) (a : Nat) (hpart : part.length ≤ 1000) (hdl : d.length ≤ 1000) (dp : Dig (b64 : Int) part) (dd : Dig (b64 : Int) d) (hg0 : 0 ≤ gs)
    (hfit : ∀ g : Int, 0 ≤ g → (num d * g.toNat ≤ num part ↔ g ≤ gs)) (hs : Evt (fun k => nat_less.f k part (limbs (num d * gs.toNat))) sN) (hsl : sN.length = part.length) (haq : a < q.length) (ha : a ≤ 1000000)
    {res : List Int × List Int} (fin : Evt (fun k => nat_long.l0 k s (r.take a ++ (sN ++ r.drop (a + part.length))) d dk (q.set a gs) ((a : Int) - 1)) res) (n : Nat) :
    ∀ g : Int, gs ≤ g → g < 18446744073709551616 → g - gs ≤ n → Evt (fun k => nat_long.l1 k s r d dk q (a : Int) g part) res := by
  have step : ∀ g : Int, gs ≤ g → g < 18446744073709551616 → (gs < g → Evt (fun k => nat_long.l1 k s r d dk q (a : Int) (IntKind.u64.wrap (g - 1)) part) res) → Evt (fun k => nat_long.l1 k s r d dk q (a : Int) g part) res := by
    intro g h1 h2 hnext
    have dg : Dig (b64 : Int) [g] := Dig.cons.2 ⟨⟨by omega, h2⟩, Dig.nil⟩
    have hng : num (strip [g]) = g.toNat := by rw [num_strip' dg, num_one (by omega)]
    refine Evt.succ ?_
    simp only [nat_long.l1]
    refine Evt.bind (nat_Of_ev g) ?_
    refine Evt.bind (nat_school_ev d (strip [g]) (by omega) (by have := strip_length [g]; simp at this; omega) dd (by rw [strip_limbs dg]; exact limbs_dig' _)) ?_
    refine Evt.bind (Evt.of (fun _ => clone_ev part (by omega))) ?_
    refine Evt.bind (nat_trim_ev part (by simp [maxLen]; omega)) ?_
    rw [hng, strip_limbs dp]
    refine Evt.bind (nat_compare_ev (limbs (num part)) (limbs (num d * g.toNat)) (limbs_dig' _) (limbs_dig' _) (limbs_can' _) (limbs_can' _) (by have := limbs_len' (num_lt dp); omega)) ?_
    rw [num_limbs, num_limbs]
    by_cases hle : g ≤ gs
    · obtain rfl : g = gs := by omega
      have hf := (hfit g hg0).2 (Int.le_refl _)
      refine Evt.ite_pos (by unfold cmpN; rw [if_neg (by omega)]; split <;> omega) ?_
      refine Evt.bind hs ?_
      refine Evt.ite_pos hsl (Evt.ite_pos (by omega) (Evt.ite_pos (by omega) ?_))
      rw [Int.toNat_natCast, w64 (by omega) (by omega)]
      exact fin
    · have hf : ¬ num d * g.toNat ≤ num part := fun h => hle ((hfit g (by omega)).1 h)
      refine Evt.ite_neg (by unfold cmpN; rw [if_pos (by omega)]; omega) ?_
      exact hnext (by omega)
  induction n with
  | zero =>
    intro g h1 h2 h3
    exact step g h1 h2 (fun h => absurd h (by omega))
  | succ n ih =>
    intro g h1 h2 h3
    refine step g h1 h2 (fun h => ?_)
    rw [wu64_of (by omega) (by omega)]
    exact ih (g - 1) (by omega) (by omega) (by omega)
theorem guess_fits {X D P0 D0 W r2 r1 r0 d1 d0 g h : Int} (hX : X = P0 + W * (r0 + 18446744073709551616 * (r1 + 18446744073709551616 * r2))) (hD : D = D0 + W * (d0 + 18446744073709551616 * d1))
    (hP : P0 < W) (hD0 : 0 ≤ D0) (hW : 0 < W) (hh : 0 ≤ h) (hfit : h * D ≤ X) : h * (d1 * 18446744073709551616 + d0) ≤ (r2 * 18446744073709551616 + r1) * 18446744073709551616 + r0 := by
  refine Int.not_lt.1 (fun hlt => ?_)
  have e1 : (r2 * 18446744073709551616 + r1) * 18446744073709551616 + r0 + 1 ≤ h * (d1 * 18446744073709551616 + d0) := hlt
  have e2 := Int.mul_le_mul_of_nonneg_left e1 (Int.le_of_lt hW)
  have e3 : 0 ≤ h * D0 := Int.mul_nonneg hh hD0
  have e4 : h * D = h * D0 + W * (h * (d1 * 18446744073709551616 + d0)) := by rw [hD]; grind
  have e5 : W * ((r2 * 18446744073709551616 + r1) * 18446744073709551616 + r0 + 1) = W * (r0 + 18446744073709551616 * (r1 + 18446744073709551616 * r2)) + W := by grind
  omega
theorem long_l0 (s : Nat) (hs : s < 64) (d : List Int) (dd : Dig (b64 : Int) d) (cd : Can d) (hk : 2 ≤ d.length) (hdl : d.length ≤ 400) (A : Int) (ql : Nat) (hql : ql ≤ 400) (i : Nat) :
    ∀ r q : List Int, i ≤ ql → r.length = ql + d.length → q.length = ql → Dig (b64 : Int) r → Dig (b64 : Int) q → val (b64 : Int) (r.drop i) < val (b64 : Int) d → val (b64 : Int) (q.drop i) * (b64 : Int) ^ i * val (b64 : Int) d + val (b64 : Int) r = A →
      Evt (fun k => nat_long.l0 k (s : Int) r d (d.length : Int) q ((i : Int) - 1)) (limbs (A / val (b64 : Int) d).toNat, limbs ((A % val (b64 : Int) d).toNat / 2 ^ s)) := by
  have hB : (b64 : Int) = 18446744073709551616 := rfl
  have hDn := val_nonneg b64_pos dd
  induction i with
  | zero =>
    intro r q hi hr hq dr dq hlt hv
    rw [List.drop_zero] at hlt
    rw [List.drop_zero, Int.pow_zero, Int.mul_one] at hv
    have hrn := val_nonneg b64_pos dr
    have e1 : A / val (b64 : Int) d = val (b64 : Int) q := by
      rw [← hv, Int.mul_comm, Int.mul_add_ediv_left _ _ (by omega), Int.ediv_eq_zero_of_lt hrn hlt, Int.add_zero]
    have e2 : A % val (b64 : Int) d = val (b64 : Int) r := by
      rw [← hv, Int.mul_comm, Int.add_comm, Int.add_mul_emod_self_left, Int.emod_eq_of_lt hrn hlt]
    rw [e1, e2, show (val (b64 : Int) q).toNat = num q from rfl, show (val (b64 : Int) r).toNat = num r from rfl]
    refine Evt.succ ?_
    simp only [nat_long.l0]
    refine Evt.ite_neg (by omega) ?_
    refine Evt.bind (nat_trim_ev r (by simp [maxLen]; omega)) ?_
    have hsl := strip_length r
    refine Evt.ite_pos (by omega) (Evt.ite_pos (by omega) ?_)
    rw [Int.toNat_natCast]
    have dsr : Dig (b64 : Int) (strip r) := by rw [strip_limbs dr]; exact limbs_dig' _
    refine (long_l2 (strip r) q dsr (by omega) (by omega) s hs (strip r).length 0 [] (by omega) (by omega) rfl (by simp)).congr (fun k => by rfl) ?_
    have hdw := downL_facts s hs (strip r) dsr
    rw [strip_limbs dq, strip_limbs hdw.1, num_down dsr s hs, num_strip' dr]
  | succ a ih =>
    intro r q hi hr hq dr dq hlt hv
    rw [show ((a + 1 : Nat) : Int) - 1 = (a : Int) from by omega]
    have hDlt := val_lt b64_pos dd
    have h1 := vsplit (b64 : Int) (r.drop (a + 1)) d.length (by rw [List.length_drop]; omega)
    rw [List.drop_drop] at h1
    have h2 := val_nonneg b64_pos ((dr.drop (a + 1)).take d.length)
    have h3 := val_nonneg b64_pos (dr.drop (a + 1 + d.length))
    have hW : (0 : Int) < (b64 : Int) ^ d.length := Int.pow_pos b64_pos
    have h4 : val (b64 : Int) (r.drop (a + 1 + d.length)) = 0 := by
      refine Int.le_antisymm (Int.not_lt.1 (fun h => ?_)) h3
      have := Int.mul_le_mul_of_nonneg_left (show (1 : Int) ≤ val (b64 : Int) (r.drop (a + 1 + d.length)) from h) (Int.le_of_lt hW)
      omega
    have hX := vdrop (b64 : Int) r a
    have hra := dr.getD b64_pos a
    have hpartl : (((r.take (a + d.length + 1)).drop a)).length = d.length + 1 := by
      rw [List.length_drop, List.length_take]; omega
    have hpv : val (b64 : Int) ((r.take (a + d.length + 1)).drop a) = val (b64 : Int) (r.drop a) := by
      have h5 := vsplit (b64 : Int) (r.drop a) (d.length + 1) (by rw [List.length_drop]; omega)
      rw [List.drop_drop, show a + (d.length + 1) = a + 1 + d.length from by omega, h4, Int.mul_zero, Int.add_zero] at h5
      rw [List.drop_take, show a + d.length + 1 - a = d.length + 1 from by omega]
      exact h5.symm
    have dpart : Dig (b64 : Int) ((r.take (a + d.length + 1)).drop a) := (dr.take _).drop _
    have hXlt : val (b64 : Int) (r.drop a) < 18446744073709551616 * val (b64 : Int) d := by
      rw [hX, hB] at *
      omega
    have hX0 : 0 ≤ val (b64 : Int) (r.drop a) := val_nonneg b64_pos (dr.drop a)
    have hD0 : 0 < val (b64 : Int) d := by
      have := val_nonneg b64_pos (dr.drop (a + 1))
      omega
    obtain ⟨gs, hgs⟩ : ∃ gs, gs = val (b64 : Int) (r.drop a) / val (b64 : Int) d := ⟨_, rfl⟩
    have hgs0 : 0 ≤ gs := by rw [hgs]; exact Int.ediv_nonneg hX0 hDn
    have hgs1 : gs < 18446744073709551616 := by
      rw [hgs]
      exact Int.ediv_lt_of_lt_mul hD0 hXlt
    have hle : ∀ g : Int, g * val (b64 : Int) d ≤ val (b64 : Int) (r.drop a) ↔ g ≤ gs := fun g => by rw [hgs, Int.le_ediv_iff_mul_le hD0]
    have hnd := num_val dd
    have hnp := num_val dpart
    have hfit : ∀ g : Int, 0 ≤ g → (num d * g.toNat ≤ num ((r.take (a + d.length + 1)).drop a) ↔ g ≤ gs) := by
      intro g hg
      rw [← hle g, ← hpv, ← hnp, ← hnd]
      obtain ⟨m, rfl⟩ := Int.eq_ofNat_of_zero_le hg
      rw [Int.toNat_natCast, Nat.mul_comm]
      have : ((m : Int) * (num d : Int)) = ((m * num d : Nat) : Int) := by simp
      rw [this]
      omega
    have hsmall : num d * gs.toNat ≤ num ((r.take (a + d.length + 1)).drop a) := (hfit gs hgs0).2 (Int.le_refl _)
    obtain ⟨sN, s1, s2, s3, s4⟩ := nat_less_ev ((r.take (a + d.length + 1)).drop a) (limbs (num d * gs.toNat)) (by omega) (limbs_len' (Nat.lt_of_le_of_lt hsmall (num_lt dpart))) dpart (limbs_dig' _) (by rw [num_limbs]; exact hsmall)
    rw [num_limbs] at s3
    have hsv : val (b64 : Int) sN = val (b64 : Int) (r.drop a) - gs * val (b64 : Int) d := by
      rw [← num_val s2, s3, ← hpv, ← hnp, ← hnd]
      obtain ⟨m, hm⟩ := Int.eq_ofNat_of_zero_le hgs0
      rw [hm] at hsmall ⊢
      rw [Int.toNat_natCast] at hsmall ⊢
      have : ((m : Int) * (num d : Int)) = ((num d * m : Nat) : Int) := by rw [Nat.mul_comm]; simp
      rw [this]
      omega
    have hslt : val (b64 : Int) sN < val (b64 : Int) d := by
      have h6 := Int.emod_lt_of_pos (val (b64 : Int) (r.drop a)) hD0
      have h7 := Int.emod_add_mul_ediv (val (b64 : Int) (r.drop a)) (val (b64 : Int) d)
      rw [← hgs, Int.mul_comm] at h7
      omega
    have hnew : (r.take a ++ (sN ++ r.drop (a + sN.length))).drop a = sN ++ r.drop (a + sN.length) := by
      rw [List.drop_append, List.drop_of_length_le (by rw [List.length_take]; omega), List.length_take, Nat.min_eq_left (by omega), Nat.sub_self, List.drop_zero, List.nil_append]
    have hnv : val (b64 : Int) (sN ++ r.drop (a + sN.length)) = val (b64 : Int) sN := by
      rw [val_append, s4, hpartl, show a + (d.length + 1) = a + 1 + d.length from by omega, h4, Int.mul_zero, Int.add_zero]
    have hfin := ih (r.take a ++ (sN ++ r.drop (a + sN.length))) (q.set a gs) (by omega) (by simp only [List.length_append, List.length_take, List.length_drop, s4, hpartl]; omega) (by rw [List.length_set]; exact hq)
      (Dig.append.2 ⟨dr.take _, Dig.append.2 ⟨s2, dr.drop _⟩⟩) (dq.set _ ⟨hgs0, hgs1⟩) (by rw [hnew, hnv]; exact hslt) (by
        rw [val_append, hnv, hsv, List.length_take, Nat.min_eq_left (by omega)]
        have e1 : (q.set a gs).drop a = gs :: q.drop (a + 1) := by
          rw [List.drop_eq_getElem_cons (by rw [List.length_set]; omega), List.drop_set, if_pos (Nat.lt_succ_self a)]
          simp
        rw [e1]
        simp only [val]
        have h8 := vsplit (b64 : Int) r a (by omega)
        rw [Int.pow_succ] at hv
        rw [← hv, h8]
        generalize val (b64 : Int) (q.drop (a + 1)) = Q
        generalize (b64 : Int) ^ a = W
        generalize val (b64 : Int) d = D
        generalize (b64 : Int) = B
        grind)
    have k1 := can_last cd (by omega)
    have kd1 := dd.getD b64_pos (d.length - 1)
    have kd0 := dd.getD b64_pos (d.length - 2)
    have kr2 := dr.getD b64_pos (a + d.length)
    have kr1 := dr.getD b64_pos (a + d.length - 1)
    have kr0 := dr.getD b64_pos (a + d.length - 2)
    rw [hB] at kd1 kd0 kr2 kr1 kr0
    obtain ⟨g, g1, g2, g3⟩ := nat_guess_ev (r2 := r.getD (a + d.length) 0) (r1 := r.getD (a + d.length - 1) 0) (r0 := r.getD (a + d.length - 2) 0) (d1 := d.getD (d.length - 1) 0) (d0 := d.getD (d.length - 2) 0) kr2.1 kr1 kr0 ⟨by omega, kd1.2⟩ kd0
    have hgg : gs ≤ g := by
      refine g3 gs hgs1 ?_
      have eX : val (b64 : Int) (r.drop a) = val (b64 : Int) ((r.drop a).take (d.length - 2)) + (b64 : Int) ^ (d.length - 2) * (r.getD (a + d.length - 2) 0 + 18446744073709551616 * (r.getD (a + d.length - 1) 0 + 18446744073709551616 * r.getD (a + d.length) 0)) := by
        rw [vsplit (b64 : Int) (r.drop a) (d.length - 2) (by rw [List.length_drop]; omega), List.drop_drop, show a + (d.length - 2) = a + d.length - 2 from by omega, vdrop (b64 : Int) r (a + d.length - 2), show a + d.length - 2 + 1 = a + d.length - 1 from by omega, vdrop (b64 : Int) r (a + d.length - 1), show a + d.length - 1 + 1 = a + d.length from by omega, vdrop (b64 : Int) r (a + d.length), show a + d.length + 1 = a + 1 + d.length from by omega, h4, Int.mul_zero, Int.add_zero, hB]
      have eD : val (b64 : Int) d = val (b64 : Int) (d.take (d.length - 2)) + (b64 : Int) ^ (d.length - 2) * (d.getD (d.length - 2) 0 + 18446744073709551616 * d.getD (d.length - 1) 0) := by
        have := vsplit (b64 : Int) d (d.length - 2) (by omega)
        rw [vdrop (b64 : Int) d (d.length - 2), show d.length - 2 + 1 = d.length - 1 from by omega, vdrop (b64 : Int) d (d.length - 1), show d.length - 1 + 1 = d.length from by omega, List.drop_length] at this
        simp only [val, Int.mul_zero, Int.add_zero] at this
        rw [hB] at this ⊢
        exact this
      have hPlt := val_lt b64_pos ((dr.drop a).take (d.length - 2))
      rw [List.length_take, List.length_drop, Nat.min_eq_left (by omega)] at hPlt
      exact guess_fits (g := 0) eX eD hPlt (val_nonneg b64_pos (dd.take _)) (Int.pow_pos b64_pos) hgs0 ((hle gs).2 (Int.le_refl _))
    refine Evt.succ ?_
    simp only [nat_long.l0]
    rw [w64 (x := (a : Int) + (d.length : Int)) (by omega) (by omega), w64 (x := (a : Int) + (d.length : Int) - 1) (by omega) (by omega), w64 (x := (a : Int) + (d.length : Int) - 2) (by omega) (by omega), w64 (x := (d.length : Int) - 1) (by omega) (by omega), w64 (x := (d.length : Int) - 2) (by omega) (by omega), w64 (x := (a : Int) + (d.length : Int) + 1) (by omega) (by omega)]
    rw [show (a : Int) + (d.length : Int) - 1 = ((a + d.length - 1 : Nat) : Int) from by omega, show (a : Int) + (d.length : Int) - 2 = ((a + d.length - 2 : Nat) : Int) from by omega, show (a : Int) + (d.length : Int) = ((a + d.length : Nat) : Int) from by omega, show (d.length : Int) - 1 = ((d.length - 1 : Nat) : Int) from by omega, show (d.length : Int) - 2 = ((d.length - 2 : Nat) : Int) from by omega, show ((a + d.length : Nat) : Int) + 1 = ((a + d.length + 1 : Nat) : Int) from by omega]
    simp only [rd_nat, Int.toNat_natCast]
    refine Evt.ite_pos (by omega) (Evt.ite_pos (by omega) (Evt.ite_pos (by omega) (Evt.ite_pos (by omega) (Evt.ite_pos (by omega) (Evt.ite_pos (by omega) (Evt.ite_pos (by omega) (Evt.ite_pos (by omega) (Evt.ite_pos (by omega) (Evt.ite_pos (by omega) (Evt.ite_pos (by omega) ?_))))))))))
    refine Evt.bind g1 ?_
    refine Evt.ite_pos (by omega) (Evt.ite_pos (by omega) (Evt.ite_pos (by omega) ?_))
    refine long_l1 r d q ((r.take (a + d.length + 1)).drop a) sN (s : Int) (d.length : Int) gs a (by omega) (by omega) dpart dd hgs0 hfit s1 s4 (by omega) (by omega) ?_ (g - gs).toNat g hgg g2.2 (by omega)
    rw [← s4]
    exact hfin
theorem nat_long_ev (a b : List Int) (da : Dig (b64 : Int) a) (db : Dig (b64 : Int) b) (cb : Can b) (hb : 2 ≤ b.length) (hab : b.length ≤ a.length) (ha : a.length ≤ 390) :
    Evt (fun k => nat_long.f k a b) (limbs (num a / num b), limbs (num a % num b)) := by
  have hB : (b64 : Int) = 18446744073709551616 := rfl
  have ht := can_last cb (by omega)
  have htr := db.getD b64_pos (b.length - 1)
  rw [hB] at htr
  obtain ⟨t, htt⟩ : ∃ t, t = b.getD (b.length - 1) 0 := ⟨_, rfl⟩
  rw [← htt] at ht htr
  have hbl1 := bl_lt t.toNat
  have hbl2 : bl t.toNat ≤ 64 := bl_le (by omega)
  have hbl3 := bl_pos (n := t.toNat) (by omega)
  obtain ⟨s, hs⟩ : ∃ s, s = 64 - bl t.toNat := ⟨_, rfl⟩
  have hs64 : s < 64 := by omega
  obtain ⟨r, r1, r2, r3, r4⟩ := nat_up_ev a da (by omega) s hs64
  obtain ⟨e, e1, e2, e3, e4⟩ := nat_up_ev b db (by omega) s hs64
  have v1 := vsplit (b64 : Int) b (b.length - 1) (by omega)
  rw [vdrop (b64 : Int) b (b.length - 1), show b.length - 1 + 1 = b.length from by omega, List.drop_length, ← htt] at v1
  simp only [val, Int.mul_zero, Int.add_zero] at v1
  have v2 := val_lt b64_pos (db.take (b.length - 1))
  rw [List.length_take, Nat.min_eq_left (by omega)] at v2
  have v3 := val_nonneg b64_pos (db.take (b.length - 1))
  have hnb := num_val db
  have hWp := pow_pos64' (b.length - 1)
  have hpc := pow_cast b64 (b.length - 1)
  have nlo : b64 ^ (b.length - 1) ≤ num b := by
    have h5 : (b64 : Int) ^ (b.length - 1) * 1 ≤ (b64 : Int) ^ (b.length - 1) * t := Int.mul_le_mul_of_nonneg_left (by omega) (by rw [hpc]; omega)
    rw [Int.mul_one] at h5
    omega
  have nhi : num b < b64 ^ (b.length - 1) * 2 ^ bl t.toNat := by
    have h5 : t + 1 ≤ ((2 ^ bl t.toNat : Nat) : Int) := by omega
    have h6 : (b64 : Int) ^ (b.length - 1) * (t + 1) ≤ (b64 : Int) ^ (b.length - 1) * ((2 ^ bl t.toNat : Nat) : Int) := Int.mul_le_mul_of_nonneg_left h5 (by rw [hpc]; omega)
    rw [Int.mul_add, Int.mul_one, hpc] at h6
    rw [hpc] at v1 v2
    have h7 : ((b64 ^ (b.length - 1) * 2 ^ bl t.toNat : Nat) : Int) = ((b64 ^ (b.length - 1) : Nat) : Int) * ((2 ^ bl t.toNat : Nat) : Int) := by simp
    omega
  have hP : 0 < 2 ^ s := Nat.pow_pos (by omega)
  have p64 : 2 ^ bl t.toNat * 2 ^ s = b64 := by
    rw [← Nat.pow_add, show bl t.toNat + s = 64 from by omega]
    rfl
  have dhi : num b * 2 ^ s < b64 ^ b.length := by
    have h6 := Nat.mul_lt_mul_of_pos_right nhi hP
    rw [Nat.mul_assoc, p64, ← Nat.pow_succ, show (b.length - 1).succ = b.length from by omega] at h6
    exact h6
  have dlo : b64 ^ (b.length - 1) ≤ num b * 2 ^ s := Nat.le_trans nlo (Nat.le_mul_of_pos_right _ hP)
  have dlen : (limbs (num b * 2 ^ s)).length = b.length := by
    have h6 := limbs_len' dhi
    have h7 : ¬ (limbs (num b * 2 ^ s)).length ≤ b.length - 1 := fun h => by
      have := (toD_len_iff b64_two (num b * 2 ^ s) (b.length - 1)).1 h
      omega
    omega
  have hvd : val (b64 : Int) (limbs (num b * 2 ^ s)) = ((num b * 2 ^ s : Nat) : Int) := val_toD b64_two _
  unfold nat_long.f
  rw [w64 (x := (b.length : Int) - 1) (by omega) (by omega)]
  refine Evt.ite_pos (by omega) (Evt.ite_pos (by omega) ?_)
  rw [show (b.length : Int) - 1 = ((b.length - 1 : Nat) : Int) from by omega, rd_nat, ← htt]
  have lz : Evt (fun k => bits_LeadingZeros64.f k t) (s : Int) := by
    unfold bits_LeadingZeros64.f
    refine (Evt.bind (bits_Len64_ev (x := t) (by omega) (by omega)) (h := fun t333 _ => some (wrap64 (64 - t333))) (Evt.pure _)).congr (fun k => rfl) ?_
    rw [w64 (by omega) (by omega)]
    omega
  refine Evt.bind lz ?_
  rw [wu64_of (by omega) (by omega)]
  refine Evt.bind r1 ?_
  refine Evt.bind e1 ?_
  refine Evt.bind (nat_trim_ev e (by simp [maxLen]; omega)) ?_
  rw [strip_limbs e2, e4, dlen, r3]
  rw [w64 (x := ((a.length + 1 : Nat) : Int) - (b.length : Int)) (by omega) (by omega), show ((a.length + 1 : Nat) : Int) - (b.length : Int) = ((a.length + 1 - b.length : Nat) : Int) from by omega, Int.toNat_natCast]
  refine Evt.ite_pos (by omega) (Evt.ite_pos (by omega) ?_)
  refine Evt.bind (Evt.pure _) ?_
  rw [List.length_replicate, w64 (by omega) (by omega)]
  have hmain := long_l0 s hs64 (limbs (num b * 2 ^ s)) (limbs_dig' _) (limbs_can' _) (by omega) (by omega) (val (b64 : Int) r) (a.length + 1 - b.length) (by omega) (a.length + 1 - b.length) r (List.replicate (a.length + 1 - b.length) 0) (Nat.le_refl _) (by omega) (by simp) r2 (Dig.replicate b64_pos _) (by
    have h6 := vsplit (b64 : Int) r (a.length + 1 - b.length) (by omega)
    have h7 := val_nonneg b64_pos (r2.take (a.length + 1 - b.length))
    have h8 := num_val r2
    rw [r4] at h8
    have h9 := num_lt da
    have h10 : num a * 2 ^ s < b64 ^ a.length * 2 ^ s := Nat.mul_lt_mul_of_pos_right h9 hP
    have h11 : b64 ^ a.length * 2 ^ s ≤ b64 ^ (a.length + 1 - b.length) * (num b * 2 ^ s) := by
      have : b64 ^ a.length = b64 ^ (a.length + 1 - b.length) * b64 ^ (b.length - 1) := by
        rw [← Nat.pow_add, show a.length + 1 - b.length + (b.length - 1) = a.length from by omega]
      rw [this, Nat.mul_assoc]
      exact Nat.mul_le_mul_left _ (Nat.mul_le_mul_right _ nlo)
    rw [hvd]
    refine Int.not_le.1 (fun hge => ?_)
    have h12 := Int.mul_le_mul_of_nonneg_left hge (show (0 : Int) ≤ (b64 : Int) ^ (a.length + 1 - b.length) by rw [pow_cast]; omega)
    have h13 : (b64 : Int) ^ (a.length + 1 - b.length) * ((num b * 2 ^ s : Nat) : Int) = ((b64 ^ (a.length + 1 - b.length) * (num b * 2 ^ s) : Nat) : Int) := by rw [pow_cast, ← Int.natCast_mul]
    rw [h13] at h12
    omega) (by
    rw [List.drop_of_length_le (by simp)]
    simp [val])
  rw [dlen] at hmain
  refine hmain.congr (fun k => rfl) ?_
  have h8 := num_val r2
  rw [hvd, ← h8, r4, show ((num a * 2 ^ s : Nat) : Int) / ((num b * 2 ^ s : Nat) : Int) = ((num a * 2 ^ s / (num b * 2 ^ s) : Nat) : Int) from rfl, show ((num a * 2 ^ s : Nat) : Int) % ((num b * 2 ^ s : Nat) : Int) = ((num a * 2 ^ s % (num b * 2 ^ s) : Nat) : Int) from rfl, Int.toNat_natCast, Int.toNat_natCast, Nat.mul_div_mul_right _ _ hP, Nat.mul_mod_mul_right, Nat.mul_div_cancel _ hP]
end Go.Proofs.Ytnaphgnkhhapoab.Z
end
section
namespace Go.Proofs.Ytnaphgnkhhapoab.Z
open Go.RowKit Go.Proofs.Ytnaphgnkhhapoab.F Go.Proofs.YtnaphgnkhhapoabW.PrintWords
set_option linter.unusedSimpArgs false
set_option linter.unusedVariables false
theorem nat_Div_ev (a b : List Int) (ha : a.length ≤ maxLen) (hb : b.length ≤ maxLen) (da : Dig (b64 : Int) a) (db : Dig (b64 : Int) b) : Evt (fun k => nat_Div.f k a b) (divV a b) := by
  unfold nat_Div.f divV
  rw [nat_right_eq _ (by intro l hl; simp at hl; rcases hl with rfl | rfl <;> assumption)]
  simp only [Option.bind_some, List.all_cons, List.all_nil, Bool.and_true, Bool.and_eq_true]
  by_cases h : rightB a = true ∧ rightB b = true
  · rw [if_pos h]
    refine Evt.ite_pos h ?_
    obtain ⟨h1, c1⟩ := (rightB_iff a).1 h.1
    obtain ⟨h2, c2⟩ := (rightB_iff b).1 h.2
    have hz := num_zero_iff db c2
    by_cases h0 : b.length = 0
    · rw [if_pos (hz.2 h0)]
      exact Evt.ite_pos (by omega) (Evt.pure _)
    · have hnz : num b ≠ 0 := fun e => h0 (hz.1 e)
      rw [if_neg hnz]
      refine Evt.ite_neg (by omega) ?_
      refine Evt.bind (nat_compare_ev a b da db c1 c2 (by omega)) ?_
      by_cases hlt : num a < num b
      · refine Evt.ite_pos (by unfold cmpN; rw [if_pos hlt]; omega) ?_
        refine Evt.bind (Evt.of (fun _ => clone_ev a (by omega))) ?_
        rw [Nat.div_eq_of_lt hlt, Nat.mod_eq_of_lt hlt, limbs_num da c1]
        rw [show limbs 0 = [] from toD_zero b64]
        exact Evt.pure _
      · refine Evt.ite_neg (by unfold cmpN; rw [if_neg hlt]; split <;> omega) ?_
        by_cases h3 : b.length = 1
        · obtain ⟨x, rfl⟩ : ∃ x, b = [x] := List.length_eq_one_iff.1 h3
          have hx := (Dig.cons.1 db).1
          have hx0 : num [x] = x.toNat := num_one hx.1
          refine Evt.ite_pos (by simp) (Evt.ite_pos (by simp) ?_)
          have hr : rd [x] 0 = x := rfl
          rw [hr]
          rw [hx0] at hnz ⊢
          have hB : (b64 : Int) = 18446744073709551616 := rfl
          rw [hB] at hx
          refine Evt.bind (nat_short_ev a x da (by omega) (by omega) hx.2) ?_
          refine (Evt.bind (nat_Of_ev ((num a % x.toNat : Nat) : Int)) (h := fun t _ => some (limbs (num a / x.toNat), t, (0 : Int))) (Evt.pure _)).congr (fun k => rfl) ?_
          have hm : num a % x.toNat < x.toNat := Nat.mod_lt _ (by omega)
          have dr : Dig (b64 : Int) [((num a % x.toNat : Nat) : Int)] := Dig.cons.2 ⟨by rw [hB]; omega, Dig.nil⟩
          rw [strip_limbs dr, num_one (by omega), Int.toNat_natCast]
        · refine Evt.ite_neg (by omega) ?_
          have hab := num_len_le db c2 da (by omega)
          exact Evt.bind (nat_long_ev a b da db c2 (by omega) hab (by omega)) (h := fun t _ => some (t.1, t.2, (0 : Int))) (Evt.pure _)
  · rw [if_neg h]
    exact Evt.ite_neg h (Evt.pure _)
theorem mi_Floor_s {a : Bool} {m n : Nat} (hm : m < b64 ^ 30) (hn : n < b64 ^ 30) (ha : a = true → m ≠ 0) (h0 : 0 < n) : Evt (fun k => modint_Floor.f k a (limbs m) false (limbs n)) ((ofI (sI a m / (n : Int))).1, (ofI (sI a m / (n : Int))).2, (ofI (sI a m % (n : Int))).1, (ofI (sI a m % (n : Int))).2, 0) := by
  have km : m < b64 ^ 64 := Nat.lt_of_lt_of_le hm (Nat.pow_le_pow_right (by decide) (by decide))
  have kn : n < b64 ^ 64 := Nat.lt_of_lt_of_le hn (Nat.pow_le_pow_right (by decide) (by decide))
  have kq := div_lt_lim (n := n) hm
  have kq' : m / n < b64 ^ 64 := by omega
  have kr : m % n < b64 ^ 64 := Nat.lt_of_le_of_lt (Nat.mod_le _ _) km
  unfold modint_Floor.f
  refine Evt.bind (Evt.of (fun _ => mi_right_s km kn ha (by simp))) (Evt.ite_pos rfl ?_)
  refine Evt.ite_neg (fun e => by have := (limbs_nil_iff n).1 (by omega); omega) (Evt.ite_neg (by simp) ?_)
  have h1 := nat_Div_ev (limbs m) (limbs n) (limbs_max km) (limbs_max kn) (dig_limbs' _) (dig_limbs' _)
  unfold divV at h1
  rw [if_pos ⟨right_limbs' km, right_limbs' kn⟩, num_limbs, num_limbs, if_neg (by omega)] at h1
  refine Evt.bind h1 ?_
  have J0 : Evt (fun k => modint_Floor.j0 k (limbs (m / n)) (limbs (m % n)) false a (limbs m) false (limbs n)) ((ofI (sI a (m / n))).1, (ofI (sI a (m / n))).2, (ofI (sI false (m % n))).1, (ofI (sI false (m % n))).2, 0) := by
    refine Evt.succ ?_
    simp only [modint_Floor.j0]
    refine Evt.ite_neg (by simp) (Evt.of (fun _ => ?_))
    rw [mi_From kq', mi_From kr]
    rfl
  cases a with
  | false =>
    refine Evt.ite_neg (by simp) (J0.congr (fun k => rfl) ?_)
    rfl
  | true =>
    refine Evt.ite_pos rfl ?_
    have hf := floor_neg (m := m) h0
    by_cases hr : m % n = 0
    · have e1 : decide (((limbs (m % n)).length : Int) > 0) = false := by
        rw [hr, limbs_zero]; rfl
      rw [e1]
      refine J0.congr (fun k => rfl) ?_
      rw [show sI true m = -(m : Int) from rfl]
      rw [if_pos hr, if_pos hr] at hf
      rw [hf.1, hf.2, hr]
      rfl
    · have e1 : decide (((limbs (m % n)).length : Int) > 0) = true := by
        have : (limbs (m % n)).length ≠ 0 := fun e => hr ((limbs_nil_iff _).1 e)
        simp; omega
      rw [e1]
      refine Evt.succ ?_
      simp only [modint_Floor.j0]
      refine Evt.ite_pos (by trivial) ?_
      refine Evt.bind (nat_Of_ev _) ?_
      rw [strip_one (by omega) (by omega)]
      have h2 := nat_Add_ev (limbs (m / n)) (limbs (1 : Int).toNat) (limbs_max kq') (limbs_max (m := 1) (by decide)) (dig_limbs' _) (dig_limbs' _)
      unfold addV at h2
      rw [if_pos ⟨right_limbs' kq', right_limbs' (v := 1) (by decide)⟩, num_limbs, num_limbs, show (1 : Int).toNat = 1 from rfl, toldV_of kq] at h2
      refine Evt.bind h2 (Evt.ite_pos rfl ?_)
      have h3 := nat_Sub_ev (limbs n) (limbs (m % n)) (limbs_max kn) (limbs_max kr) (dig_limbs' _) (dig_limbs' _)
      unfold subV at h3
      have hlt := Nat.mod_lt m h0
      rw [if_pos ⟨right_limbs' kn, right_limbs' kr⟩, num_limbs, num_limbs, if_neg (by omega)] at h3
      refine Evt.bind h3 (Evt.of (fun _ => ?_))
      rw [mi_From kq, mi_From (Nat.lt_of_le_of_lt (Nat.sub_le _ _) kn)]
      rw [if_neg hr, if_neg hr] at hf
      rw [show sI true m = -(m : Int) from rfl]
      rw [hf.1, hf.2]
      rfl
theorem mi_Floor_ev {x y : Int} (hx : SmI x) (hy : SmI y) (h0 : 0 < y) : Evt (fun k => modint_Floor.f k (ofI x).1 (ofI x).2 (ofI y).1 (ofI y).2) ((ofI (x / y)).1, (ofI (x / y)).2, (ofI (x % y)).1, (ofI (x % y)).2, 0) := by
  have h := mi_Floor_s (a := decide (x < 0)) (m := x.natAbs) (n := y.natAbs) hx hy neg_abs (by omega)
  rw [sI_of, show ((y.natAbs : Nat) : Int) = y by omega] at h
  have e : (ofI y).1 = false := decide_eq_false (by omega)
  rw [e]
  exact h
theorem mi_Small_ev {x : Int} (hx : SmI x) : Evt (fun k => modint_Small.f k (ofI x).1 (ofI x).2) (smI x) := by
  have hb : b64 = 18446744073709551616 := rfl
  unfold modint_Small.f
  refine Evt.bind (nat_Small_ev _ (limbs_max hx.lt)) ?_
  have es : smallV (ofI x).2 = if x.natAbs < b64 then ((x.natAbs : Int), true) else (0, false) := small_limbs hx.lt
  rw [es]
  have hr : modint_Right.f (ofI x).1 (ofI x).2 = some true := by rw [modint_Right_eq (ofI x).1 (ofI x).2 (limbs_max hx.lt), intR_of hx.lt]
  have J1 : ∀ (v : Int) (b : Bool), Evt (fun k => modint_Small.j1 k v b (ofI x).1 (ofI x).2) (if b = true then (0, false) else (if (ofI x).1 = true then (wrap64 (IntKind.u64.wrap (-v)), true) else (wrap64 v, true))) := by
    intro v b
    refine Evt.succ ?_
    simp only [modint_Small.j1]
    exact Evt.cond (fun _ => Evt.pure _) (fun _ => Evt.cond (fun _ => Evt.pure _) (fun _ => Evt.pure _))
  have J0 : ∀ (v : Int) (ok : Bool) (most : Int), Evt (fun k => modint_Small.j0 k v ok most (ofI x).1 (ofI x).2) (if ok = true ∧ v ≤ most then (if (ofI x).1 = true then (wrap64 (IntKind.u64.wrap (-v)), true) else (wrap64 v, true)) else (0, false)) := by
    intro v ok most
    refine Evt.succ ?_
    simp only [modint_Small.j0]
    rw [hr]
    simp only [Option.bind_some, if_true]
    cases ok with
    | false => exact Evt.ite_neg (by simp) ((J1 v true).congr (fun k => rfl) (by simp))
    | true =>
      refine Evt.ite_pos rfl ((J1 v _).congr (fun k => rfl) ?_)
      by_cases h : v ≤ most
      · have : ¬ v > most := by omega
        simp [h, this]
      · have : v > most := by omega
        simp [h, this]
  have ex : (ofI x).1 = decide (x < 0) := rfl
  have key : ∀ (v : Int) (ok : Bool) (most : Int), (v = (if x.natAbs < b64 then (x.natAbs : Int) else 0)) → ok = decide (x.natAbs < b64) → most = (if x < 0 then 9223372036854775808 else 9223372036854775807) → Evt (fun k => modint_Small.j0 k v ok most (ofI x).1 (ofI x).2) (smI x) := by
    intro v ok most hv hok hmost
    refine (J0 v ok most).congr (fun k => rfl) ?_
    unfold smI
    rw [ex, hb] at *
    by_cases hbig : x.natAbs < 18446744073709551616
    · rw [if_pos hbig] at hv
      rw [decide_eq_true hbig] at hok
      subst hok hv
      by_cases hn : x < 0
      · rw [if_pos hn] at hmost
        subst hmost
        by_cases hin : -9223372036854775808 ≤ x
        · rw [if_pos ⟨rfl, by omega⟩, if_pos (decide_eq_true hn), if_pos ⟨hin, by omega⟩, wu64]
          congr 1
          unfold wrap64
          omega
        · rw [if_neg (fun e => by omega), if_neg (fun e => by omega)]
      · rw [if_neg hn] at hmost
        subst hmost
        by_cases hin : x < 9223372036854775808
        · rw [if_pos ⟨rfl, by omega⟩, if_neg (by simpa using hn), if_pos ⟨by omega, hin⟩]
          congr 1
          unfold wrap64
          omega
        · rw [if_neg (fun e => by omega), if_neg (fun e => by omega)]
    · rw [decide_eq_false hbig] at hok
      subst hok
      rw [if_neg (by simp), if_neg (by omega)]
  by_cases hn : x < 0
  · refine Evt.ite_pos (by rw [ex]; exact decide_eq_true hn) (key _ _ _ ?_ ?_ ?_)
    · split <;> rfl
    · by_cases h : x.natAbs < b64
      · rw [if_pos h, decide_eq_true h]
      · rw [if_neg h, decide_eq_false h]
    · rw [if_pos hn]; rfl
  · refine Evt.ite_neg (by rw [ex]; simpa using hn) (key _ _ _ ?_ ?_ ?_)
    · split <;> rfl
    · by_cases h : x.natAbs < b64
      · rw [if_pos h, decide_eq_true h]
      · rw [if_neg h, decide_eq_false h]
    · rw [if_neg hn]
theorem fix_Unpack_ev (n : List Int) (s : Int) (v : List Int) (hn : n.length ≤ maxLen) (dn : Dig (b64 : Int) n) (hv : v.length ≤ maxLen) (dv : Dig (b64 : Int) v) : Evt (fun k => fixenc_Unpack.f k n s v) (unpackV n s v) := by
  unfold fixenc_Unpack.f unpackV
  refine Evt.bind (may_ev n hn dn) ?_
  have J : ∀ b : Bool, (b = false → mayV n = true ∧ 1 ≤ s ∧ s ≤ 62) → Evt (fun k => fixenc_Unpack.j0 k n s v b) (if b = true then (0, 0, 1) else (if rightB v = true ∧ num v < num n then (if -9223372036854775808 ≤ decI n v / 2 ^ s.toNat ∧ decI n v / 2 ^ s.toNat < 9223372036854775808 then (decI n v / 2 ^ s.toNat, decI n v % 2 ^ s.toNat, 0) else (0, 0, 12)) else (0, 0, 10))) := by
    intro b hb
    refine Evt.succ ?_
    simp only [fixenc_Unpack.j0]
    refine Evt.cond (fun _ => Evt.pure _) (fun hc => ?_)
    obtain ⟨hm, h1, h2⟩ := hb (by simpa using hc)
    obtain ⟨q, rfl⟩ : ∃ q : Nat, s = (q : Int) := ⟨s.toNat, by omega⟩
    rw [Int.toNat_natCast]
    refine Evt.bind (fix_Decode_ev n v hn hv dn dv) ?_
    rw [decV_eq dn dv hm]
    by_cases hR : rightB v = true ∧ num v < num n
    · rw [if_pos hR, if_pos hR]
      refine Evt.ite_pos rfl ?_
      have z0 := decI_sz dn hm hR.2
      have hp : (0 : Int) < 2 ^ q := Int.pow_pos (by omega)
      refine Evt.bind (mi_Of_ev (x := 1) (by omega) (by omega)) ?_
      refine Evt.bind (times2_ev (x := 1) ((Sz.i64 (x := 1) (by omega) (by omega)).smI (by omega)) (by omega)) ?_
      rw [Int.one_mul]
      refine Evt.bind (mi_Floor_ev (z0.smI (by omega)) ((Sz.pow (s := q) (by omega)).smI (by omega)) hp) ?_
      have z1 := Sz.ediv z0 hp
      refine Evt.bind (mi_Small_ev (z1.smI (by omega))) ?_
      rw [smI_of]
      by_cases hin : -9223372036854775808 ≤ decI n v / 2 ^ q ∧ decI n v / 2 ^ q < 9223372036854775808
      · rw [if_pos hin, if_pos hin]
        refine Evt.ite_pos rfl ?_
        obtain ⟨m0, m1⟩ := mod_pow_i64 (decI n v) (q := q) (by omega)
        have h4 := mi_Small_ev ((Sz.i64 (x := decI n v % 2 ^ q) (by omega) m1).smI (by omega))
        rw [smI_of, if_pos ⟨by omega, m1⟩] at h4
        exact Evt.bind h4 (h := fun t _ => some (decI n v / 2 ^ q, t.1, (0 : Int))) (Evt.pure _)
      · rw [if_neg hin, if_neg hin]
        exact Evt.ite_neg (by simp) (Evt.pure _)
    · rw [if_neg hR, if_neg hR]
      exact Evt.ite_neg (by simp) (Evt.pure _)
  cases hm : mayV n with
  | false =>
    refine Evt.ite_neg (by simp) ((J true (by simp)).congr (fun k => rfl) ?_)
    simp
  | true =>
    refine Evt.ite_pos rfl ?_
    by_cases h1 : s < 1
    · refine Evt.ite_pos h1 ((J true (by simp)).congr (fun k => rfl) ?_)
      rw [if_pos rfl, if_neg (fun e => absurd e.2.1 (by omega))]
    · refine Evt.ite_neg h1 ((J _ (fun e => ⟨hm, by omega, by simpa using e⟩)).congr (fun k => rfl) ?_)
      have h1' : 1 ≤ s := by omega
      by_cases h2 : s ≤ 62
      · have h3 : ¬ s > 62 := by omega
        simp [h1', h2, h3]
      · have h3 : s > 62 := by omega
        simp [h2, h3]
end Go.Proofs.Ytnaphgnkhhapoab.Z
end
section
namespace Go.Proofs.Ytnaphgnkhhapoab.Pure
open Go.RowKit Go.Proofs.Ytnaphgnkhhapoab.F Go.Proofs.Ytnaphgnkhhapoab.Z
set_option linter.unusedSimpArgs false
set_option linter.unusedVariables false
theorem FixencUnpacks : windbreaklaw07_FixencUnpacks.Pure := by
  intro n s v hn _ wn ws hv _ wv
  apply Evt.get
  have dn := dig_of_wf wn
  have dv := dig_of_wf wv
  unfold windbreaklaw07_FixencUnpacks.f
  refine Evt.bind (few7_ev [n, v] (by simp [maxLen])) ?_
  refine Evt.cond' (fun _ => ?_) (fun _ => Evt.pure _)
  refine Evt.bind awake_ev ?_
  refine Evt.bind (fix_Unpack_ev n s v hn dn hv dv) ?_
  refine Evt.bind (ref_Unpack_ev n s v hn dn hv dv) ?_
  refine Evt.ite_pos rfl (Evt.ite_pos rfl (Evt.ite_pos rfl ((Evt.pure _).congr (fun k => rfl) (by simp))))
end Go.Proofs.Ytnaphgnkhhapoab.Pure
end
section
namespace Go.Proofs.YtnaphgnkhhapoabW.PrintWords
open Go.ChangeShapes Go.WideShapes
theorem sized_ints {H : Type} {enc : TypeId × Value → H} {P : Program} {W : World} {base : Nat} {spare : Nat → Bool} {held : Bool} {t e : TypeId} {k : IntKind} {a : Option Addr} {len cap : Nat} {d : DataW H} {ps : List MemPlace} {ts : List TypeId} {ds : List (DataW H)} {j : Nat}
    (hsz : (DataW.weightsEach P ts ds).all (· ≤ reachBytes) = true) (ht : ts[j]? = some t) (hd : ds[j]? = some d) (hu : P.underlying t = some (.slice e)) (he : P.underlying e = some (.int k)) (hc : P.cellsOf e = 1) {B : Nat} (hB : P.bytesOf e = B)
    (h : DataW.Trod enc P W base spare held t (.slice a len cap) d ps) : len * B ≤ 140737488351232 := by
  obtain ⟨fuel, hf⟩ := h
  rcases open_ints hu he hc hf with ⟨hcs, _⟩ | ⟨x, l, c, zs, hcs, _, hl, _, hz, hx, _, _⟩
  · simp [Value.cells] at hcs
    obtain ⟨rfl, rfl, rfl⟩ := hcs
    simp
  · simp [Value.cells] at hcs
    obtain ⟨rfl, rfl, rfl⟩ := hcs
    obtain ⟨hx, _⟩ := Prod.mk.inj hx
    subst hx
    have z := sized_slice hsz ht hd hu
    rw [hB] at z
    have hl2 : len ≤ zs.length := by
      rw [hz]
      split
      · exact hl
      · exact Nat.le_refl _
    have h1 : (lits (H := H) k (zs.take len)).length + (lits (H := H) k (zs.drop len)).length = zs.length := by
      simp [lits]
      omega
    rw [h1] at z
    exact Nat.le_trans (Nat.mul_le_mul_right _ hl2) z
end Go.Proofs.YtnaphgnkhhapoabW.PrintWords
end
section
namespace Go.Proofs.Ytnaphgnkhhapoab.fixencUnpacks
open Go.ChangeShapes Go.WideShapes Go.ChangeAt Go.RowKit
open Go.ChangeMaps (open_string shut_string)
set_option linter.unusedVariables false
theorem own : ownKnob Try.prog.godebug = none := by kernel_rfl
theorem laidOut : laidOutB Try.prog = true := by kernel_rfl
def IsRow (k : IntKind) (w : World) (a : Option Addr) (len cap : Nat) (zs : List Int) : Prop :=
  (a = none ∧ len = 0 ∧ cap = 0 ∧ zs = []) ∨
  ∃ x, a = some x ∧ len ≤ cap ∧ cap ≤ maxLen ∧ zs.length = cap ∧ (∀ i, i < zs.length → w.cell? (x.add i) = some (.int k (zs.getD i 0))) ∧ ∀ n ∈ zs, (Lit.int k n).wf = true
theorem lifted (os : Os) (started : os.Started) (H : Type) (enc : TypeId × Value → H) :
    ReturnsInHanded {} Try.checked os 3 .any (Rows.fixencUnpacksSpec.pre6 enc Try.prog Try.f3 Rows.fixencUnpacksRow.domain false) (Rows.fixencUnpacksSpec.post enc Try.prog Try.f3 false true false false) := by
  refine returnsInHanded_of_change_sized (C := Try.checked) own started (by kernel_rfl) Try.func3
    (ChangeSpec.witness6 (enc := enc) (C := Try.checked) false ⟨#[], #[.slice none 0 0, .int .i64 0, .slice none 0 0], []⟩ 8 (by kernel_rfl) (by kernel_rfl) (by kernel_rfl) (by kernel_rfl)) ?_
  intro W base args ds gs before hval0 hW hcnd hsz0 _
  have hsz : (DataW.weightsEach Try.prog (Try.f3.params.toList ++ Rows.fixencUnpacksSpec.plain.varTypes Try.prog) (ds ++ gs)).all (· ≤ reachBytes) = true := hsz0
  have hval : ∀ (j : Nat) t v, Try.f3.params[j]? = some t → args[j]? = some v → Value.okWide Try.prog W .any base t v := hval0
  have hW' := hW
  obtain ⟨p, q, hA0, hV, rfl, hfz, hnd⟩ := hW
  have hA : DataW.TrodAll enc Try.prog W 0 (fun _ => true) true Try.f3.params.toList args.toList ds p := hA0
  rw [Try.params3] at hA hval hsz
  obtain ⟨v0, vs0, d0, ds0, p0, q0, hargs, rfl, rfl, h0, r0⟩ := trodAll_cons hA
  obtain ⟨v1, vs1, d1, ds1, p1, q1, rfl, rfl, rfl, h1, r1⟩ := trodAll_cons r0
  obtain ⟨v2, vs2, d2, ds2, p2, q2, rfl, rfl, rfl, h2, r2⟩ := trodAll_cons r1
  obtain ⟨rfl, rfl, rfl⟩ := trodAll_nil r2
  obtain rfl : args = #[v0, v1, v2] := by cases args; simp_all
  obtain ⟨rfl, rfl⟩ := trodVars_none hV
  obtain ⟨a0, len0, cap0, rfl⟩ := okWide_slice Try.underlying23 (hval 0 23 v0 rfl rfl)
  have k0 := h0
  have lt0 : ∀ x ∈ p0, x.block < W.heap.size := by obtain ⟨m, hm⟩ := k0; exact DataW.trod_lt m _ _ _ hm
  obtain ⟨z0, w0⟩ : ∃ zs, IsRow .u64 W a0 len0 cap0 zs := by
    obtain ⟨fuel, hf⟩ := h0
    rcases open_ints Try.underlying23 Try.underlying42 (by kernel_rfl) hf with ⟨hcs, _⟩ | ⟨x, l, c, zs, hcs, _, hl, hm, hz, _, hcell, hwz⟩
    · simp [Value.cells] at hcs
      obtain ⟨rfl, rfl, rfl⟩ := hcs
      exact ⟨[], .inl ⟨rfl, rfl, rfl, rfl⟩⟩
    · simp [Value.cells] at hcs
      obtain ⟨rfl, rfl, rfl⟩ := hcs
      exact ⟨zs, .inr ⟨_, rfl, hl, hm, by simpa using hz, hcell, hwz⟩⟩
  have y0 : len0 * 8 ≤ 140737488351232 := Go.Proofs.YtnaphgnkhhapoabW.PrintWords.sized_ints hsz (j := 0) (t := 23) rfl rfl Try.underlying23 Try.underlying42 (by kernel_rfl) (by kernel_rfl) h0
  obtain ⟨a1, rfl, rfl, rfl, w1⟩ := open_int Try.underlying3 (hval 1 3 v1 rfl rfl) h1
  obtain ⟨a2, len2, cap2, rfl⟩ := okWide_slice Try.underlying23 (hval 2 23 v2 rfl rfl)
  have k2 := h2
  have lt2 : ∀ x ∈ p2, x.block < W.heap.size := by obtain ⟨m, hm⟩ := k2; exact DataW.trod_lt m _ _ _ hm
  obtain ⟨z2, w2⟩ : ∃ zs, IsRow .u64 W a2 len2 cap2 zs := by
    obtain ⟨fuel, hf⟩ := h2
    rcases open_ints Try.underlying23 Try.underlying42 (by kernel_rfl) hf with ⟨hcs, _⟩ | ⟨x, l, c, zs, hcs, _, hl, hm, hz, _, hcell, hwz⟩
    · simp [Value.cells] at hcs
      obtain ⟨rfl, rfl, rfl⟩ := hcs
      exact ⟨[], .inl ⟨rfl, rfl, rfl, rfl⟩⟩
    · simp [Value.cells] at hcs
      obtain ⟨rfl, rfl, rfl⟩ := hcs
      exact ⟨zs, .inr ⟨_, rfl, hl, hm, by simpa using hz, hcell, hwz⟩⟩
  have y2 : len2 * 8 ≤ 140737488351232 := Go.Proofs.YtnaphgnkhhapoabW.PrintWords.sized_ints hsz (j := 2) (t := 23) rfl rfl Try.underlying23 Try.underlying42 (by kernel_rfl) (by kernel_rfl) h2
  clear hA0 hval0 hsz0 hsz
  refine (F.windbreaklaw07_FixencUnpacks.walk Pure.FixencUnpacks a0 len0 cap0 z0 a1 a2 len2 cap2 z2 W w0 y0 w1 w2 y2).mono fun e W' ⟨he, bel⟩ => ?_
  subst he
  exact ⟨_, rfl, _, _, _, [], _, [], hW', trodAll_mk1 (shut_bool Try.underlying4 _), (trodAll_cons_mk (Below.trod laidOut (by kernel_rfl) (of_decide_eq_true (by kernel_rfl)) k0 bel lt0) (trodAll_cons_mk (shut_int Try.underlying3 w1) (trodAll_cons_mk (Below.trod laidOut (by kernel_rfl) (of_decide_eq_true (by kernel_rfl)) k2 bel lt2) trodAll_mk0))), rfl, bel.frame _, fun h => by cases h⟩
theorem over : Rows.fixencUnpacksRow.holds Try.pinned (OpenSpec.ofChange Rows.fixencUnpacksSpec) :=
  OpenClaim.holds_of_wide 3 Try.f3 rfl rfl rfl rfl rfl rfl rfl ⟨rfl, rfl, rfl, rfl, rfl⟩ rfl rfl rfl rfl rfl (by kernel_rfl) Try.func3 (by kernel_rfl)
    (of_decide_eq_true (by kernel_rfl)) (by unfold Func.isWrapper; first | (rw [if_pos (by decide +kernel)]; kernel_rfl) | (rw [if_neg (by decide +kernel)]; exact ⟨rfl, rfl⟩))
    (fun os started H enc _ => lifted os started H enc)
theorem proved : Rows.FixencUnpacksSaid := over
#print axioms proved
end Go.Proofs.Ytnaphgnkhhapoab.fixencUnpacks
namespace Go.Proofs.Ytnaphgnkhhapoab
theorem fixencUnpacks_holds : Rows.FixencUnpacksSaid := fixencUnpacks.proved
end Go.Proofs.Ytnaphgnkhhapoab
end
