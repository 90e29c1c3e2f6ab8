/- Proved: the law NatRead of layer 1: bytes and texts are read as the number they were made of; for every input, without a condition. -/
import Derived.Test.YteabkedhdgnhgabMNatReadb
import Derived.Test.YteabkedhdgnhgabRows
import Derived.WalkKit
import Derived.ProofKit
import Derived.OpenShut
import Derived.ShutString
import Derived.ChangeOld
import Derived.Below
import Derived.SizedLaws
import Derived.Test.YteabkedhdgnhgabWSized

namespace Go.Proofs.Yteabkedhdgnhgab.Z
open Go.RowKit Go.Proofs.Yteabkedhdgnhgab.F Go.Proofs.YteabkedhdgnhgabW.PrintWords
set_option linter.unusedSimpArgs false
set_option linter.unusedVariables false
/-- One digit of a quotient: what the test of the loop tells. -/
theorem div_corr {Y a b u c q r : Int} (hY : Y = a * 4294967296 + b) (ha : 2147483648 ≤ a ∧ a < 4294967296) (hb : 0 ≤ b ∧ b < 4294967296) (hu : 0 ≤ u ∧ u < Y) (hc : 0 ≤ c ∧ c < 4294967296)
    (hq : (u * 4294967296 + c) / Y ≤ q) (hq2 : q ≤ 4294967297) (hr : r = u - q * a) (hr0 : 0 ≤ r ∧ r < 4294967296) :
    ((q ≥ 4294967296 ∨ q * b > 4294967296 * r + c) → (u * 4294967296 + c) / Y ≤ q - 1) ∧ (¬ (q ≥ 4294967296 ∨ q * b > 4294967296 * r + c) → (u * 4294967296 + c) / Y = q) ∧
    ((q ≥ 4294967296 ∨ q * b > 4294967296 * r + c) → r + a ≥ 4294967296 → (u * 4294967296 + c) / Y = q - 1) := by
  have hY0 : 0 < Y := by omega
  have e1 : q * Y = q * a * 4294967296 + q * b := by rw [hY]; grind
  have e2 : (q - 1) * Y = q * Y - Y := by grind
  have lt : (u * 4294967296 + c) / Y < 4294967296 := by
    apply Int.ediv_lt_of_lt_mul hY0
    omega
  have up : (q ≥ 4294967296 ∨ q * b > 4294967296 * r + c) → (u * 4294967296 + c) / Y ≤ q - 1 := by
    intro h
    rcases h with h | h
    · omega
    · have : (u * 4294967296 + c) / Y < q := by
        apply Int.ediv_lt_of_lt_mul hY0
        rw [e1]; omega
      omega
  refine ⟨up, fun h => ?_, fun h h2 => ?_⟩
  · have : q ≤ (u * 4294967296 + c) / Y := by
      rw [Int.le_ediv_iff_mul_le hY0, e1]
      omega
    omega
  · have h3 := up h
    have h4 : (q - 1) * b ≤ 4294967296 * 4294967295 := by
      by_cases h5 : q - 1 ≤ 0
      · have : (q - 1) * b ≤ 0 := Int.mul_nonpos_of_nonpos_of_nonneg h5 hb.1
        omega
      · exact Int.mul_le_mul (by omega) (by omega) hb.1 (by omega)
    have h6 : (q - 1) * b = q * b - b := by grind
    have : q - 1 ≤ (u * 4294967296 + c) / Y := by
      rw [Int.le_ediv_iff_mul_le hY0, e2, e1]
      omega
    omega
theorem mul_u64 {x y : Int} (hx : 0 ≤ x ∧ x < 4294967296) (hy : 0 ≤ y ∧ y < 4294967296) : 0 ≤ x * y ∧ x * y < 18446744073709551616 := by
  refine ⟨Int.mul_nonneg hx.1 hy.1, ?_⟩
  have : x * y ≤ 4294967295 * 4294967295 := Int.mul_le_mul (by omega) (by omega) hy.1 (by omega)
  omega
theorem div_l0 {Y a b u c c0 s : Int} (hY : Y = a * 4294967296 + b) (ha : 2147483648 ≤ a ∧ a < 4294967296) (hb : 0 ≤ b ∧ b < 4294967296) (hu : 0 ≤ u ∧ u < Y) (hc : 0 ≤ c ∧ c < 4294967296) {res : Int × Int}
    (fin : Evt (fun k => bits_Div64.j2 k Y s a b u c c0 ((u * 4294967296 + c) / Y)) res) (n : Nat) : ∀ q r : Int, (u * 4294967296 + c) / Y ≤ q → q ≤ 4294967297 → r = u - q * a → 0 ≤ r ∧ r < 4294967296 → q - (u * 4294967296 + c) / Y ≤ n →
    Evt (fun k => bits_Div64.l0 k Y s a b u c c0 q r) res := by
  have hQ0 : 0 ≤ (u * 4294967296 + c) / Y := Int.ediv_nonneg (by omega) (by omega)
  induction n with
  | zero =>
    intro q r hq hq2 hr hr0 hn
    obtain ⟨g1, g2, g3⟩ := div_corr hY ha hb hu hc hq hq2 hr hr0
    have hno : ¬ (q ≥ 4294967296 ∨ q * b > 4294967296 * r + c) := fun h => by have := g1 h; omega
    refine Evt.succ ?_
    simp only [bits_Div64.l0]
    refine Evt.ite_neg (fun h => hno (Or.inl h)) ?_
    have hm := mul_u64 (x := q) (y := b) ⟨by omega, by omega⟩ hb
    rw [wu64_of hm.1 hm.2, wu64_of (x := 4294967296 * r) (by omega) (by omega), wu64_of (x := 4294967296 * r + c) (by omega) (by omega)]
    refine Evt.succ ?_
    simp only [bits_Div64.j1]
    refine Evt.ite_neg (by simp only [decide_eq_true_eq]; exact fun h => hno (Or.inr h)) ?_
    rw [← g2 hno]
    exact fin
  | succ n ih =>
    intro q r hq hq2 hr hr0 hn
    obtain ⟨g1, g2, g3⟩ := div_corr hY ha hb hu hc hq hq2 hr hr0
    have key : ∀ t : Bool, (t = true ↔ (q ≥ 4294967296 ∨ q * b > 4294967296 * r + c)) → Evt (fun k => bits_Div64.j1 k Y s a b u c c0 q r t) res := by
      intro t ht
      refine Evt.succ ?_
      simp only [bits_Div64.j1]
      by_cases h : t = true
      · have h' := ht.1 h
        have hq1 := g1 h'
        refine Evt.ite_pos h ?_
        rw [wu64_of (x := r + a) (by omega) (by omega), wu64_of (x := q - 1) (by omega) (by omega)]
        by_cases h2 : r + a ≥ 4294967296
        · refine Evt.ite_pos h2 ?_
          rw [← g3 h' h2]
          exact fin
        · refine Evt.ite_neg h2 (ih (q - 1) (r + a) hq1 (by omega) ?_ (by omega) (by omega))
          rw [hr]; grind
      · refine Evt.ite_neg h ?_
        rw [← g2 (fun h' => h (ht.2 h'))]
        exact fin
    refine Evt.succ ?_
    simp only [bits_Div64.l0]
    by_cases h : q ≥ 4294967296
    · exact Evt.ite_pos h (key true ⟨fun _ => Or.inl h, fun _ => rfl⟩)
    · refine Evt.ite_neg h (key _ ?_)
      have hm := mul_u64 (x := q) (y := b) ⟨by omega, by omega⟩ hb
      rw [wu64_of hm.1 hm.2, wu64_of (x := 4294967296 * r) (by omega) (by omega), wu64_of (x := 4294967296 * r + c) (by omega) (by omega), decide_eq_true_eq]
      exact ⟨fun h => Or.inr h, fun h' => by rcases h' with h' | h'; exact absurd h' h; exact h'⟩
/-- What is left behind one digit. -/
theorem div_left {Y u c : Int} (hY : 0 < Y ∧ Y < 18446744073709551616) (hu : 0 ≤ u ∧ u < Y) (hc : 0 ≤ c ∧ c < 4294967296) :
    IntKind.u64.wrap ((IntKind.u64.wrap ((IntKind.u64.wrap (u * 4294967296)) + c)) - (IntKind.u64.wrap ((u * 4294967296 + c) / Y * Y))) = (u * 4294967296 + c) % Y := by
  have h1 : (u * 4294967296 + c) % Y + (u * 4294967296 + c) / Y * Y = u * 4294967296 + c := by rw [Int.mul_comm (_ / Y)]; exact Int.emod_add_mul_ediv _ _
  have h2 := Int.emod_nonneg (u * 4294967296 + c) (show Y ≠ 0 by omega)
  have h3 := Int.emod_lt_of_pos (u * 4294967296 + c) hY.1
  generalize (u * 4294967296 + c) % Y = m at *
  generalize (u * 4294967296 + c) / Y * Y = p at *
  simp only [wu64]
  omega
theorem div_first {Y a b u : Int} (c : Int) (hY : Y = a * 4294967296 + b) (ha : 2147483648 ≤ a ∧ a < 4294967296) (hb : 0 ≤ b ∧ b < 4294967296) (hu : 0 ≤ u ∧ u < Y) (hc : 0 ≤ c ∧ c < 4294967296) :
    IntKind.u64.wrap (Int.tdiv u a) = u / a ∧ IntKind.u64.wrap (u - IntKind.u64.wrap (u / a * a)) = u - u / a * a ∧ (u * 4294967296 + c) / Y ≤ u / a ∧ u / a ≤ 4294967297 ∧ 0 ≤ u - u / a * a ∧ u - u / a * a < 4294967296 := by
  have h1 : u % a + u / a * a = u := by rw [Int.mul_comm (u / a)]; exact Int.emod_add_mul_ediv _ _
  have h2 := Int.emod_nonneg u (show a ≠ 0 by omega)
  have h3 := Int.emod_lt_of_pos u (show 0 < a by omega)
  have h4 := Int.ediv_nonneg hu.1 (show 0 ≤ a by omega)
  have h5 : u / a < 4294967298 := by
    apply Int.ediv_lt_of_lt_mul (by omega)
    omega
  have h6 : (u * 4294967296 + c) / Y ≤ u / a := by
    have hY0 : 0 < Y := by omega
    have : (u * 4294967296 + c) / Y < u / a + 1 := by
      apply Int.ediv_lt_of_lt_mul hY0
      have e : (u / a + 1) * Y = (u / a * a + a) * 4294967296 + (u / a) * b + b := by rw [hY]; grind
      have h7 := Int.mul_nonneg h4 hb.1
      rw [e]
      omega
    omega
  rw [Int.tdiv_eq_ediv_of_nonneg hu.1, wu64_of h4 (by omega)]
  have h8 := Int.mul_nonneg h4 (show 0 ≤ a by omega)
  refine ⟨rfl, ?_, h6, by omega, by omega, by omega⟩
  rw [wu64_of (x := u / a * a) (by omega) (by omega), wu64_of (by omega) (by omega)]
theorem div_l1 {Y a b u c q1 : Int} (s : Nat) (hs : s < 64) (hY : Y = a * 4294967296 + b) (ha : 2147483648 ≤ a ∧ a < 4294967296) (hb : 0 ≤ b ∧ b < 4294967296) (hu : 0 ≤ u ∧ u < Y) (hc : 0 ≤ c ∧ c < 4294967296)
    (hq1 : 0 ≤ q1 ∧ q1 < 4294967296) (n : Nat) : ∀ q r : Int, (u * 4294967296 + c) / Y ≤ q → q ≤ 4294967297 → r = u - q * a → 0 ≤ r ∧ r < 4294967296 → q - (u * 4294967296 + c) / Y ≤ n →
    Evt (fun k => bits_Div64.l1 k Y (s : Int) a b c q1 r u q) (q1 * 4294967296 + (u * 4294967296 + c) / Y, (u * 4294967296 + c) % Y / 2 ^ s) := by
  have hQ0 : 0 ≤ (u * 4294967296 + c) / Y := Int.ediv_nonneg (by omega) (by omega)
  have hQ1 : (u * 4294967296 + c) / Y < 4294967296 := by
    apply Int.ediv_lt_of_lt_mul (by omega)
    omega
  have hl := div_left (Y := Y) (u := u) (c := c) ⟨by omega, by omega⟩ hu hc
  induction n with
  | zero =>
    intro q r hq hq2 hr hr0 hn
    obtain ⟨g1, g2, g3⟩ := div_corr hY ha hb hu hc hq hq2 hr hr0
    have hno : ¬ (q ≥ 4294967296 ∨ q * b > 4294967296 * r + c) := fun h => by have := g1 h; omega
    refine Evt.succ ?_
    simp only [bits_Div64.l1]
    refine Evt.ite_neg (fun h => hno (Or.inl h)) ?_
    have hm := mul_u64 (x := q) (y := b) ⟨by omega, by omega⟩ hb
    rw [wu64_of hm.1 hm.2, wu64_of (x := 4294967296 * r) (by omega) (by omega), wu64_of (x := 4294967296 * r + c) (by omega) (by omega)]
    refine Evt.succ ?_
    simp only [bits_Div64.j4]
    refine Evt.ite_neg (by simp only [decide_eq_true_eq]; exact fun h => hno (Or.inr h)) (Evt.ite_pos (by omega) ?_)
    rw [← g2 hno, hl, shr_u64 _ _ (by omega), wu64_of (x := q1 * 4294967296) (by omega) (by omega), wu64_of (by omega) (by omega)]
    exact Evt.pure _
  | succ n ih =>
    intro q r hq hq2 hr hr0 hn
    obtain ⟨g1, g2, g3⟩ := div_corr hY ha hb hu hc hq hq2 hr hr0
    have key : ∀ t : Bool, (t = true ↔ (q ≥ 4294967296 ∨ q * b > 4294967296 * r + c)) → Evt (fun k => bits_Div64.j4 k Y (s : Int) a b c q1 r u q t) (q1 * 4294967296 + (u * 4294967296 + c) / Y, (u * 4294967296 + c) % Y / 2 ^ s) := by
      intro t ht
      refine Evt.succ ?_
      simp only [bits_Div64.j4]
      by_cases h : t = true
      · have h' := ht.1 h
        have hq1 := g1 h'
        refine Evt.ite_pos h ?_
        rw [wu64_of (x := r + a) (by omega) (by omega), wu64_of (x := q - 1) (by omega) (by omega)]
        by_cases h2 : r + a ≥ 4294967296
        · refine Evt.ite_pos h2 (Evt.ite_pos (by omega) ?_)
          rw [← g3 h' h2, hl, shr_u64 _ _ (by omega), wu64_of (x := q1 * 4294967296) (by omega) (by omega), wu64_of (by omega) (by omega)]
          exact Evt.pure _
        · refine Evt.ite_neg h2 (ih (q - 1) (r + a) hq1 (by omega) ?_ (by omega) (by omega))
          rw [hr]; grind
      · refine Evt.ite_neg h (Evt.ite_pos (by omega) ?_)
        rw [← g2 (fun h' => h (ht.2 h')), hl, shr_u64 _ _ (by omega), wu64_of (x := q1 * 4294967296) (by omega) (by omega), wu64_of (by omega) (by omega)]
        exact Evt.pure _
    refine Evt.succ ?_
    simp only [bits_Div64.l1]
    by_cases h : q ≥ 4294967296
    · exact Evt.ite_pos h (key true ⟨fun _ => Or.inl h, fun _ => rfl⟩)
    · refine Evt.ite_neg h (key _ ?_)
      have hm := mul_u64 (x := q) (y := b) ⟨by omega, by omega⟩ hb
      rw [wu64_of hm.1 hm.2, wu64_of (x := 4294967296 * r) (by omega) (by omega), wu64_of (x := 4294967296 * r + c) (by omega) (by omega), decide_eq_true_eq]
      exact ⟨fun h => Or.inr h, fun h' => by rcases h' with h' | h'; exact absurd h' h; exact h'⟩
theorem mask32 {x : Int} (h0 : 0 ≤ x) (h1 : x < 18446744073709551616) : Go.bits .and .u64 x 4294967295 = x % 4294967296 := by
  have h := bits_mask .u64 64 (by decide) wraps_u64 32 (by decide) x h0 (by omega)
  rw [show (2 : Int) ^ 32 = 4294967296 from by decide] at h
  exact h
/-- Two limbs by one. -/
theorem bits_Div64_ev {hi lo y : Int} (h1 : 0 ≤ hi ∧ hi < y) (h2 : 0 ≤ lo ∧ lo < 18446744073709551616) (h3 : y < 18446744073709551616) :
    Evt (fun k => bits_Div64.f k hi lo y) ((hi * 18446744073709551616 + lo) / y, (hi * 18446744073709551616 + lo) % y) := by
  unfold bits_Div64.f
  refine Evt.ite_neg (by omega) (Evt.ite_neg (by omega) ?_)
  by_cases h0 : hi = 0
  · subst h0
    have h4 := Int.ediv_nonneg h2.1 (show 0 ≤ y by omega)
    have h5 := Int.ediv_le_self y h2.1
    refine Evt.ite_pos rfl ?_
    rw [Int.zero_mul, Int.zero_add, Int.tdiv_eq_ediv_of_nonneg h2.1, Int.tmod_eq_emod_of_nonneg h2.1, wu64_of h4 (by omega)]
    exact Evt.pure _
  · refine Evt.ite_neg h0 ?_
    have hbl := bl_le (x := y.toNat) (m := 64) (by omega)
    have hbp := bl_pos (n := y.toNat) (by omega)
    have hb1 := bl_lt y.toNat
    have hb2 := bl_ge (n := y.toNat) (by omega)
    obtain ⟨s, hs⟩ : ∃ s, s = 64 - bl y.toNat := ⟨_, rfl⟩
    have hs64 : s < 64 := by omega
    refine Evt.bind (Evt.bind (h := fun t _ => some (wrap64 (64 - t))) (bits_Len64_ev (x := y) (by omega) h3) (Evt.pure _)) ?_
    rw [show wrap64 (64 - ((bl y.toNat : Nat) : Int)) = (s : Int) from by rw [w64 (by omega) (by omega)]; omega]
    rw [wu64_of (x := (s : Int)) (by omega) (by omega), wu64_of (x := 64 - (s : Int)) (by omega) (by omega), show 64 - (s : Int) = ((64 - s : Nat) : Int) from by omega]
    rw [shl_u64 y s (by omega), shl_u64 hi s (by omega), shl_u64 lo s (by omega), shr_u64 lo (64 - s) (by omega)]
    have hp := pow2_pos s
    have hY1 : y * 2 ^ s < 18446744073709551616 := by
      have h4 : y.toNat * 2 ^ s < 2 ^ bl y.toNat * 2 ^ s := Nat.mul_lt_mul_of_pos_right hb1 (Nat.pow_pos (by decide))
      rw [← Nat.pow_add, show bl y.toNat + s = 64 from by omega] at h4
      have h5 : ((y.toNat * 2 ^ s : Nat) : Int) = y * 2 ^ s := by rw [Int.natCast_mul, Int.toNat_of_nonneg (by omega)]; simp
      omega
    have hY2 : 9223372036854775808 ≤ y * 2 ^ s := by
      have h4 : 2 ^ (bl y.toNat - 1) * 2 ^ s ≤ y.toNat * 2 ^ s := Nat.mul_le_mul_right _ hb2
      rw [← Nat.pow_add, show bl y.toNat - 1 + s = 63 from by omega] at h4
      have h5 : ((y.toNat * 2 ^ s : Nat) : Int) = y * 2 ^ s := by rw [Int.natCast_mul, Int.toNat_of_nonneg (by omega)]; simp
      omega
    have hh0 : 0 ≤ hi * 2 ^ s := Int.mul_nonneg h1.1 (by omega)
    have hh1 : hi * 2 ^ s + 2 ^ s ≤ y * 2 ^ s := by
      have := Int.mul_le_mul_of_nonneg_right (show hi + 1 ≤ y by omega) (show 0 ≤ (2 : Int) ^ s by omega)
      rw [Int.add_mul, Int.one_mul] at this
      exact this
    obtain ⟨f1, f2, f3, f4⟩ := shl_facts h2 (s := s) (by omega)
    have f5 := Int.emod_nonneg (lo * 2 ^ s) (show (18446744073709551616 : Int) ≠ 0 by omega)
    have f6 := Int.emod_lt_of_pos (lo * 2 ^ s) (show (0 : Int) < 18446744073709551616 by omega)
    rw [Int.emod_eq_of_lt (show 0 ≤ y * 2 ^ s by omega) hY1, Int.emod_eq_of_lt hh0 (by omega)]
    rw [or_u64 s (by omega) hh0 (Int.mul_emod_left _ _) (by omega) f3 f4]
    rw [mask32 (by omega) hY1, mask32 f5 f6]
    have hres : ((hi * 18446744073709551616 + lo) * 2 ^ s) / (y * 2 ^ s) = (hi * 18446744073709551616 + lo) / y := Int.mul_ediv_mul_of_pos_left _ _ hp
    have hrem : ((hi * 18446744073709551616 + lo) * 2 ^ s) % (y * 2 ^ s) = (hi * 18446744073709551616 + lo) % y * 2 ^ s := by
      rw [Int.mul_comm _ (2 ^ s), Int.mul_comm y, Int.mul_emod_mul_of_pos _ _ hp, Int.mul_comm]
    have hV : (hi * 18446744073709551616 + lo) * 2 ^ s = (hi * 2 ^ s + lo / 2 ^ (64 - s)) * 18446744073709551616 + (lo * 2 ^ s) % 18446744073709551616 := by
      have e : (hi * 18446744073709551616 + lo) * 2 ^ s = hi * 2 ^ s * 18446744073709551616 + lo * 2 ^ s := by grind
      rw [e]
      omega
    have hu : 0 ≤ hi * 2 ^ s + lo / 2 ^ (64 - s) ∧ hi * 2 ^ s + lo / 2 ^ (64 - s) < y * 2 ^ s := by omega
    generalize (hi * 18446744073709551616 + lo) / y = RQ at *
    generalize (hi * 18446744073709551616 + lo) % y = RM at *
    generalize hi * 2 ^ s + lo / 2 ^ (64 - s) = u at *
    generalize (lo * 2 ^ s) % 18446744073709551616 = v at *
    generalize y * 2 ^ s = Y at *
    rw [hV] at hres hrem
    have ha : 2147483648 ≤ Y / 4294967296 ∧ Y / 4294967296 < 4294967296 := by omega
    have hb : 0 ≤ Y % 4294967296 ∧ Y % 4294967296 < 4294967296 := by omega
    have hYY : Y = Y / 4294967296 * 4294967296 + Y % 4294967296 := by omega
    have hc : 0 ≤ v / 4294967296 ∧ v / 4294967296 < 4294967296 := by omega
    have hc0 : 0 ≤ v % 4294967296 ∧ v % 4294967296 < 4294967296 := by omega
    have hvv : v = v / 4294967296 * 4294967296 + v % 4294967296 := by omega
    generalize Y / 4294967296 = a at *
    generalize Y % 4294967296 = b at *
    generalize v / 4294967296 = c at *
    generalize v % 4294967296 = c0 at *
    refine Evt.ite_pos (by omega) (Evt.ite_pos (by omega) (Evt.ite_neg (by omega) ?_))
    obtain ⟨g1, g2, g3, g4, g5, g6⟩ := div_first c hYY ha hb hu hc
    rw [g1, g2]
    have hY0 : 0 < Y := by omega
    have m1 := Int.emod_nonneg (u * 4294967296 + c) (show Y ≠ 0 by omega)
    have m2 := Int.emod_lt_of_pos (u * 4294967296 + c) hY0
    have m3 := Int.emod_add_mul_ediv (u * 4294967296 + c) Y
    have q0 : 0 ≤ (u * 4294967296 + c) / Y := Int.ediv_nonneg (by omega) (by omega)
    have q1 : (u * 4294967296 + c) / Y < 4294967296 := by
      apply Int.ediv_lt_of_lt_mul hY0
      omega
    have hl := div_left (Y := Y) (u := u) (c := c) ⟨hY0, hY1⟩ hu hc
    refine div_l0 hYY ha hb hu hc ?_ 4294967300 (u / a) (u - u / a * a) g3 g4 rfl ⟨g5, g6⟩ (by omega)
    refine Evt.succ ?_
    simp only [bits_Div64.j2]
    refine Evt.ite_neg (by omega) ?_
    rw [hl]
    generalize (u * 4294967296 + c) % Y = u2 at *
    generalize (u * 4294967296 + c) / Y = Q1 at *
    obtain ⟨k1, k2, k3, k4, k5, k6⟩ := div_first c0 hYY ha hb ⟨m1, m2⟩ hc0
    rw [k1, k2]
    have n1 := Int.emod_nonneg (u2 * 4294967296 + c0) (show Y ≠ 0 by omega)
    have n2 := Int.emod_lt_of_pos (u2 * 4294967296 + c0) hY0
    have n3 := Int.emod_add_mul_ediv (u2 * 4294967296 + c0) Y
    have r0 : 0 ≤ (u2 * 4294967296 + c0) / Y := Int.ediv_nonneg (by omega) (by omega)
    have hend := div_l1 (q1 := Q1) s hs64 hYY ha hb ⟨m1, m2⟩ hc0 ⟨q0, q1⟩ 4294967300 (u2 / a) (u2 - u2 / a * a) k3 k4 rfl ⟨k5, k6⟩ (by omega)
    refine hend.congr (fun k => rfl) ?_
    generalize (u2 * 4294967296 + c0) % Y = M at *
    generalize (u2 * 4294967296 + c0) / Y = Q0 at *
    have ef : u * 18446744073709551616 + v = M + Y * (Q1 * 4294967296 + Q0) := by
      have e : Y * (Q1 * 4294967296 + Q0) = Y * Q1 * 4294967296 + Y * Q0 := by grind
      rw [e]
      omega
    rw [ef, Int.add_mul_ediv_left _ _ (show Y ≠ 0 by omega), Int.ediv_eq_zero_of_lt n1 n2, Int.zero_add] at hres
    rw [ef, Int.add_mul_emod_self_left, Int.emod_eq_of_lt n1 n2] at hrem
    rw [hres, hrem, Int.mul_ediv_cancel _ (by omega)]
end Go.Proofs.Yteabkedhdgnhgab.Z

namespace Go.Proofs.Yteabkedhdgnhgab.Z
open Go.RowKit Go.Proofs.Yteabkedhdgnhgab.F Go.Proofs.YteabkedhdgnhgabW.PrintWords
set_option linter.unusedSimpArgs false
set_option linter.unusedVariables false
theorem drop_set_self (l : List Int) (i : Nat) (x : Int) (h : i < l.length) : (l.set i x).drop i = x :: l.drop (i + 1) := by
  rw [List.drop_eq_getElem_cons (by simpa using h), List.drop_set, if_pos (Nat.lt_succ_self i)]
  simp
theorem nat_short_loop (a : List Int) (d : Int) (da : Dig (b64 : Int) a) (ha : a.length ≤ 100000) (h0 : 0 < d) (h1 : d < 18446744073709551616) (n : Nat) :
    ∀ (out : List Int) (rest : Int), n ≤ a.length → out.length = a.length → Dig (b64 : Int) out → 0 ≤ rest ∧ rest < d → val (b64 : Int) (out.drop n) * d + rest = val (b64 : Int) (a.drop n) →
    Evt (fun k => nat_short.l0 k a d out rest ((n : Int) - 1)) (limbs (num a / d.toNat), ((num a % d.toNat : Nat) : Int)) := by
  induction n with
  | zero =>
    intro out rest hn ho do_ hr hv
    refine Evt.succ ?_
    simp only [nat_short.l0]
    refine Evt.ite_neg (by omega) ?_
    refine Evt.bind (nat_trim_ev out (by simp [maxLen]; omega)) ?_
    rw [strip_limbs do_]
    rw [List.drop_zero, List.drop_zero] at hv
    have e1 := num_val do_
    have e2 := num_val da
    have e3 : num a = num out * d.toNat + rest.toNat := by
      have : (num a : Int) = ((num out * d.toNat + rest.toNat : Nat) : Int) := by
        rw [Int.natCast_add, Int.natCast_mul, e1, e2, Int.toNat_of_nonneg (by omega), Int.toNat_of_nonneg hr.1]
        exact hv.symm
      omega
    have e4 : num a / d.toNat = num out := by
      rw [e3, Nat.mul_comm, Nat.mul_add_div (by omega), Nat.div_eq_of_lt (by omega), Nat.add_zero]
    have e5 : num a % d.toNat = rest.toNat := by
      rw [e3, Nat.mul_comm, Nat.mul_add_mod, Nat.mod_eq_of_lt (by omega)]
    rw [e4, e5, Int.toNat_of_nonneg hr.1]
    exact Evt.pure _
  | succ n ih =>
    intro out rest hn ho do_ hr hv
    refine Evt.succ ?_
    simp only [nat_short.l0]
    rw [show ((n + 1 : Nat) : Int) - 1 = (n : Int) from by omega, rd_nat, w64 (by omega) (by omega)]
    have hx := da.getD b64_pos n
    have hg : a.getD n 0 = a[n] := by simp [show n < a.length by omega]
    simp only [b64] at hx
    have hq0 : 0 ≤ (rest * 18446744073709551616 + a.getD n 0) / d := Int.ediv_nonneg (by omega) (by omega)
    have hq1 : (rest * 18446744073709551616 + a.getD n 0) / d < 18446744073709551616 := by
      apply Int.ediv_lt_of_lt_mul h0
      omega
    have hm0 := Int.emod_nonneg (rest * 18446744073709551616 + a.getD n 0) (show d ≠ 0 by omega)
    have hm1 := Int.emod_lt_of_pos (rest * 18446744073709551616 + a.getD n 0) h0
    have hm : (rest * 18446744073709551616 + a.getD n 0) % d + (rest * 18446744073709551616 + a.getD n 0) / d * d = rest * 18446744073709551616 + a.getD n 0 := by rw [Int.mul_comm (_ / d)]; exact Int.emod_add_mul_ediv _ _
    refine Evt.ite_pos (by omega) (Evt.ite_pos (by omega) (Evt.ite_pos (by omega) ?_))
    refine Evt.bind (bits_Div64_ev hr hx h1) ?_
    refine Evt.ite_pos (by omega) ?_
    rw [Int.toNat_natCast]
    refine ih _ _ (by omega) (by simpa using ho) (do_.set n ⟨hq0, hq1⟩) ⟨hm0, hm1⟩ ?_
    rw [drop_set_self _ _ _ (by omega), List.drop_eq_getElem_cons (show n < a.length by omega), ← hg]
    simp only [val, b64] at hv ⊢
    generalize (rest * 18446744073709551616 + a.getD n 0) / d = Q at *
    generalize (rest * 18446744073709551616 + a.getD n 0) % d = M at *
    generalize a.getD n 0 = x at *
    rw [← hv]
    generalize val _ (out.drop (n + 1)) = V at *
    have e : (Q + ((18446744073709551616 : Nat) : Int) * V) * d = Q * d + 18446744073709551616 * (V * d) := by
      rw [Int.add_mul, Int.mul_assoc]; rfl
    rw [e, Int.mul_add]
    omega
theorem nat_short_ev (a : List Int) (d : Int) (da : Dig (b64 : Int) a) (ha : a.length ≤ 100000) (h0 : 0 < d) (h1 : d < 18446744073709551616) :
    Evt (fun k => nat_short.f k a d) (limbs (num a / d.toNat), ((num a % d.toNat : Nat) : Int)) := by
  unfold nat_short.f
  refine Evt.ite_pos (by omega) (Evt.ite_pos (by omega) ?_)
  rw [Int.toNat_natCast, w64 (by omega) (by omega)]
  refine nat_short_loop a d da ha h0 h1 a.length _ 0 (Nat.le_refl _) (by simp) (Dig.replicate b64_pos _) ⟨by omega, h0⟩ ?_
  rw [List.drop_of_length_le (by simp), List.drop_of_length_le (by simp)]
  simp [val]
end Go.Proofs.Yteabkedhdgnhgab.Z

namespace Go.Proofs.Yteabkedhdgnhgab.Z
open Go.RowKit Go.Proofs.YteabkedhdgnhgabW.PrintWords
set_option linter.unusedSimpArgs false
set_option linter.unusedVariables false
/-! ### Texts in base ten -/
def ten : Nat := 10
theorem ten_two : 2 ≤ ten := by decide
/-- The letters of a number, the lowest first. -/
def letters (v : Nat) : List Int := (toD ten v).map fun x => 48 + x
/-- What letters, the lowest first, are told as. -/
def textL (l : List Int) : ByteArray := if l = [] then ⟨#[48]⟩ else strOfNums l.reverse
/-- A number in base ten. -/
def textV (a : List Int) : ByteArray := if rightB a = true then textL (letters (num a)) else ⟨#[]⟩
theorem letters_zero : letters 0 = [] := by unfold letters; rw [toD_zero]; rfl
theorem letters_pos {v : Nat} (h : 0 < v) : letters v = (48 + ((v % 10 : Nat) : Int)) :: letters (v / 10) := by
  unfold letters
  rw [toD_pos ten_two h]
  rfl
theorem letters_len {v m : Nat} (h : v < b64 ^ m) : (letters v).length ≤ 20 * m := by
  unfold letters
  rw [List.length_map]
  refine toD_len_le ten_two (Nat.lt_of_lt_of_le h ?_)
  rw [Nat.pow_mul]
  exact Nat.pow_le_pow_left (by decide) m
/-- A row of which the first and the last i are changed about. -/
def Rv (L x : List Int) (i : Nat) : Prop := x.length = L.length ∧ ∀ p, p < L.length → x.getD p 0 = if p < i ∨ L.length - 1 - p < i then L.getD (L.length - 1 - p) 0 else L.getD p 0
theorem Rv.zero (L : List Int) : Rv L L 0 := ⟨rfl, fun p _ => by rw [if_neg (by omega)]⟩
theorem Rv.step {L x : List Int} {i : Nat} (h : Rv L x i) (hi : i < L.length - 1 - i) : Rv L ((x.set i (x.getD (L.length - 1 - i) 0)).set (L.length - 1 - i) (x.getD i 0)) (i + 1) := by
  obtain ⟨h1, h2⟩ := h
  refine ⟨by simpa using h1, fun p hp => ?_⟩
  have a1 := h2 i (by omega)
  have a2 := h2 (L.length - 1 - i) (by omega)
  rw [if_neg (by omega)] at a1 a2
  rw [a1, a2]
  rw [List.getD_eq_getElem?_getD]
  by_cases e1 : p = L.length - 1 - i
  · subst e1
    rw [List.getElem?_set_self (by simp; omega), if_pos (by omega), show L.length - 1 - (L.length - 1 - i) = i from by omega]
    rfl
  · rw [List.getElem?_set_ne (by omega)]
    by_cases e2 : p = i
    · subst e2
      rw [List.getElem?_set_self (by omega), if_pos (by omega)]
      rfl
    · rw [List.getElem?_set_ne (by omega), ← List.getD_eq_getElem?_getD, h2 p hp]
      by_cases e3 : p < i ∨ L.length - 1 - p < i
      · rw [if_pos e3, if_pos (by omega)]
      · rw [if_neg e3, if_neg (by omega)]
theorem Rv.done {L x : List Int} {i : Nat} (h : Rv L x i) (hi : L.length ≤ 2 * i + 1) : x = L.reverse := by
  obtain ⟨h1, h2⟩ := h
  apply List.ext_getElem (by simpa using h1)
  intro p hp hp2
  have hpL : p < L.length := by omega
  have h3 := h2 p hpL
  rw [List.getD_eq_getElem?_getD, List.getElem?_eq_getElem hp] at h3
  rw [List.getElem_reverse]
  have e : L[L.length - 1 - p] = L.getD (L.length - 1 - p) 0 := by
    rw [List.getD_eq_getElem?_getD, List.getElem?_eq_getElem (by omega)]
    rfl
  rw [e]
  by_cases e3 : p < i ∨ L.length - 1 - p < i
  · rw [if_pos e3] at h3; exact h3
  · rw [if_neg e3] at h3
    rw [show L.length - 1 - p = p from by omega]
    exact h3
end Go.Proofs.Yteabkedhdgnhgab.Z

namespace Go.Proofs.Yteabkedhdgnhgab.Z
open Go.RowKit Go.Proofs.Yteabkedhdgnhgab.F Go.Proofs.YteabkedhdgnhgabW.PrintWords
set_option linter.unusedSimpArgs false
set_option linter.unusedVariables false
theorem slices_Reverse_loop (L : List Int) (hL : L.length ≤ 1000000) (n : Nat) : ∀ (x : List Int) (i : Nat), L.length - i = n → i ≤ L.length → Rv L x i →
    Evt (fun k => slices_Reverse_byte_byte.l0 k x (i : Int) ((L.length : Int) - 1 - (i : Int))) L.reverse := by
  induction n with
  | zero =>
    intro x i hn hi h
    refine Evt.succ ?_
    simp only [slices_Reverse_byte_byte.l0]
    refine Evt.ite_neg (by omega) ?_
    rw [h.done (by omega)]
    exact Evt.pure _
  | succ n ih =>
    intro x i hn hi h
    have hl := h.1
    refine Evt.succ ?_
    simp only [slices_Reverse_byte_byte.l0]
    by_cases hc : (i : Int) < (L.length : Int) - 1 - (i : Int)
    · refine Evt.ite_pos hc (Evt.ite_pos (by omega) (Evt.ite_pos (by omega) (Evt.ite_pos (by omega) (Evt.ite_pos (by omega) ?_))))
      rw [w64 (by omega) (by omega), w64 (by omega) (by omega), rd_nat, rd_getD, Int.toNat_natCast, show ((L.length : Int) - 1 - (i : Int)).toNat = L.length - 1 - i from by omega]
      refine (ih _ (i + 1) (by omega) (by omega) (h.step (by omega))).congr (fun k => ?_) rfl
      congr 1
      omega
    · refine Evt.ite_neg hc ?_
      rw [h.done (by omega)]
      exact Evt.pure _
theorem slices_Reverse_ev (L : List Int) (hL : L.length ≤ 1000000) : Evt (fun k => slices_Reverse_byte_byte.f k L) L.reverse := by
  unfold slices_Reverse_byte_byte.f
  rw [w64 (by omega) (by omega)]
  refine (slices_Reverse_loop L hL L.length L 0 (by omega) (Nat.zero_le _) (Rv.zero L)).congr (fun k => ?_) rfl
  congr 1
  omega
end Go.Proofs.Yteabkedhdgnhgab.Z

namespace Go.Proofs.Yteabkedhdgnhgab.Z
open Go.RowKit Go.Proofs.Yteabkedhdgnhgab.F Go.Proofs.YteabkedhdgnhgabW.PrintWords
set_option linter.unusedSimpArgs false
set_option linter.unusedVariables false
theorem nat_Text_l1 (u : Nat) (hu : (limbs u).length ≤ 100000) (h0 : ∀ out : List Int, out.length + (letters u).length ≤ 1000000 → Evt (fun k => nat_Text.l0 k (limbs u) out) (textL (out ++ letters u))) (n : Nat) :
    ∀ (out : List Int) (r i : Nat), i + n = 19 → r < 10 ^ n → out.length + (letters (u * 10 ^ n + r)).length ≤ 1000000 → Evt (fun k => nat_Text.l1 k (limbs u) out (r : Int) (i : Int)) (textL (out ++ letters (u * 10 ^ n + r))) := by
  induction n with
  | zero =>
    intro out r i hi hr hl
    have e : u * 10 ^ 0 + r = u := by simp at hr ⊢; omega
    rw [e] at hl ⊢
    refine Evt.succ ?_
    simp only [nat_Text.l1]
    exact Evt.ite_neg (by omega) (h0 out hl)
  | succ n ih =>
    intro out r i hi hr hl
    refine Evt.succ ?_
    simp only [nat_Text.l1]
    refine Evt.ite_pos (by omega) ?_
    have hr19 : r < 10 ^ 19 := Nat.lt_of_lt_of_le hr (Nat.pow_le_pow_right (by decide) (by omega))
    have e2 : IntKind.u64.wrap (Int.tdiv (r : Int) 10) = ((r / 10 : Nat) : Int) := by
      rw [show (10 : Int) = ((10 : Nat) : Int) from rfl, tdiv_nat, wu64_of (by omega) (by omega)]
    have e3 : (48 + Int.tmod (r : Int) 10) % 256 = 48 + ((r % 10 : Nat) : Int) := by
      rw [show (10 : Int) = ((10 : Nat) : Int) from rfl, tmod_nat]
      omega
    rw [e2, e3, w64 (by omega) (by omega)]
    have ew : (u * 10 ^ (n + 1) + r) / 10 = u * 10 ^ n + r / 10 := by
      rw [Nat.pow_succ, ← Nat.mul_assoc]
      generalize u * 10 ^ n = z
      omega
    have em : (u * 10 ^ (n + 1) + r) % 10 = r % 10 := by
      rw [Nat.pow_succ, ← Nat.mul_assoc]
      generalize u * 10 ^ n = z
      omega
    have hr2 : r / 10 < 10 ^ n := by
      rw [Nat.pow_succ] at hr
      omega
    by_cases hw : 0 < u * 10 ^ (n + 1) + r
    · rw [letters_pos hw, ew, em] at hl ⊢
      have hgo := ih (out ++ [48 + ((r % 10 : Nat) : Int)]) (r / 10) (i + 1) (by omega) hr2 (by simp at hl ⊢; omega)
      rw [List.append_assoc, List.singleton_append] at hgo
      have hlen : out.length < 140737488355328 := by omega
      by_cases h : (r : Int) > 0
      · exact Evt.ite_pos h (Evt.ite_pos hlen (hgo.congr (fun k => rfl) rfl))
      · refine Evt.ite_neg h (Evt.ite_pos ?_ (Evt.ite_pos hlen (hgo.congr (fun k => rfl) rfl)))
        have hu0 : u ≠ 0 := by
          intro e
          subst e
          rw [Nat.zero_mul] at hw
          omega
        have : limbs u ≠ [] := fun e => hu0 ((toD_eq_nil b64_two).1 e)
        have := List.length_pos_iff.2 this
        omega
    · have hz : u * 10 ^ (n + 1) + r = 0 := by omega
      have hr0 : r = 0 := by omega
      have hu0 : u = 0 := by
        have h1 : u * 10 ^ (n + 1) = 0 := by omega
        rcases Nat.mul_eq_zero.1 h1 with h2 | h2
        · exact h2
        · exact absurd h2 (Nat.ne_of_gt (Nat.pow_pos (by decide)))
      rw [hz] at hl ⊢
      subst hr0
      subst hu0
      refine Evt.ite_neg (by omega) (Evt.ite_neg ?_ (h0 out hl))
      rw [show limbs 0 = [] from toD_zero b64]
      simp
theorem nat_Text_l0 (v : Nat) : ∀ out : List Int, (limbs v).length ≤ 100000 → out.length + (letters v).length ≤ 1000000 → Evt (fun k => nat_Text.l0 k (limbs v) out) (textL (out ++ letters v)) := by
  induction v using Nat.strongRecOn with
  | _ v ih =>
    intro out hl ho
    refine Evt.succ ?_
    simp only [nat_Text.l0]
    by_cases hv : v = 0
    · subst hv
      rw [letters_zero, List.append_nil]
      rw [show limbs 0 = [] from toD_zero b64]
      refine Evt.ite_neg (by simp) ?_
      unfold textL
      by_cases h : out = []
      · rw [if_pos h]
        exact Evt.ite_pos (by rw [h]; rfl) (Evt.pure _)
      · rw [if_neg h]
        refine Evt.ite_neg (fun e => h (List.length_eq_zero_iff.1 (by omega))) ?_
        exact Evt.bind (slices_Reverse_ev out (by omega)) (Evt.pure _)
    · have hne : limbs v ≠ [] := fun e => hv ((toD_eq_nil b64_two).1 e)
      have hp := List.length_pos_iff.2 hne
      refine Evt.ite_pos (by omega) ?_
      have hs := nat_short_ev (limbs v) 10000000000000000000 (toD_dig b64_two v) hl (by omega) (by omega)
      rw [num_limbs, show (10000000000000000000 : Int).toNat = 10 ^ 19 from rfl] at hs
      refine Evt.bind hs ?_
      have hlt : v / 10 ^ 19 < v := Nat.div_lt_self (by omega) (by decide)
      have hle : (limbs (v / 10 ^ 19)).length ≤ (limbs v).length := by
        refine toD_len_le b64_two (Nat.lt_of_lt_of_le (Nat.lt_of_lt_of_le hlt (Nat.le_refl _)) (Nat.le_of_lt (toD_lt_pow b64_two v)))
      have e : v / 10 ^ 19 * 10 ^ 19 + v % 10 ^ 19 = v := by rw [Nat.mul_comm]; exact Nat.div_add_mod _ _
      have hgo := nat_Text_l1 (v / 10 ^ 19) (by omega) (fun o h2 => ih _ hlt o (by omega) h2) 19 out (v % 10 ^ 19) 0 rfl (Nat.mod_lt _ (by decide))
      rw [e] at hgo
      exact hgo ho
theorem nat_Text_ev (a : List Int) (ha : a.length ≤ maxLen) (da : Dig (b64 : Int) a) : Evt (fun k => nat_Text.f k a) (textV a) := by
  unfold nat_Text.f textV
  rw [nat_Right_eq ha]
  simp only [Option.bind_some]
  cases hA : rightB a with
  | true =>
    obtain ⟨h1, c1⟩ := (rightB_iff a).1 hA
    rw [if_pos rfl]
    refine Evt.ite_pos rfl ?_
    have h2 := letters_len (num_lt da)
    have h := nat_Text_l0 (num a) [] (by rw [limbs_num da c1]; omega) (by simp; omega)
    rw [limbs_num da c1, List.nil_append] at h
    exact h
  | false =>
    rw [if_neg (by simp)]
    exact Evt.ite_neg (by simp) (Evt.pure _)
end Go.Proofs.Yteabkedhdgnhgab.Z

namespace Go.Proofs.Yteabkedhdgnhgab.Z
open Go.RowKit Go.Proofs.YteabkedhdgnhgabW.PrintWords
set_option linter.unusedSimpArgs false
set_option linter.unusedVariables false
/-! ### The number of a text in base ten -/
/-- The number of the first n letters. -/
def valT (s : ByteArray) : Nat → Nat
  | 0 => 0
  | n + 1 => valT s n * 10 + (bt s (n : Int) - 48).toNat
def figs (s : ByteArray) : Prop := ∀ j, j < s.size → 48 ≤ bt s (j : Int) ∧ bt s (j : Int) ≤ 57
instance (s : ByteArray) : Decidable (figs s) := by unfold figs; infer_instance
def parseW (s : ByteArray) : List Int × Int := if figs s then toldV (valT s s.size) else ([], 5)
/-- What a text is read as. -/
def parseT (s : ByteArray) : List Int × Int := if s.size < 1 ∨ 1240 < s.size ∨ (1 < s.size ∧ bt s 0 = 48) then ([], 5) else parseW s
theorem valT_lt (s : ByteArray) (n : Nat) (h : ∀ j, j < n → 48 ≤ bt s (j : Int) ∧ bt s (j : Int) ≤ 57) : valT s n < 10 ^ n := by
  induction n with
  | zero => simp [valT]
  | succ n ih =>
    have h1 := ih (fun j hj => h j (by omega))
    have h2 := h n (by omega)
    rw [valT, Nat.pow_succ]
    omega
theorem ten_lim {n : Nat} (h : n ≤ 1600) : 10 ^ n ≤ lim := by
  have h1 : 10 ^ n ≤ 16 ^ n := Nat.pow_le_pow_left (by decide) n
  have h2 : (16 : Nat) ^ n = 2 ^ (4 * n) := by rw [Nat.pow_mul]
  have h3 : 2 ^ (4 * n) ≤ b64 ^ 100 := pow2_le_b64 (by omega)
  have h4 : b64 ^ 100 ≤ lim := lim_pow (by omega)
  omega
end Go.Proofs.Yteabkedhdgnhgab.Z

namespace Go.Proofs.Yteabkedhdgnhgab.Z
open Go.RowKit Go.Proofs.Yteabkedhdgnhgab.F Go.Proofs.YteabkedhdgnhgabW.PrintWords
set_option linter.unusedSimpArgs false
set_option linter.unusedVariables false
theorem carry_of {c : Int} (h : c = 0 ∨ c = 1) : carry01 c = true := decide_eq_true h
end Go.Proofs.Yteabkedhdgnhgab.Z

namespace Go.Proofs.Yteabkedhdgnhgab.Z
open Go.RowKit Go.Proofs.Yteabkedhdgnhgab.F Go.Proofs.YteabkedhdgnhgabW.PrintWords
set_option linter.unusedSimpArgs false
set_option linter.unusedVariables false
theorem mask32m {x : Int} (h0 : 0 ≤ x) (h1 : x < 18446744073709551616) : Go.bits .and .u64 x 4294967295 = x % 4294967296 := by
  have h := bits_mask .u64 64 (by decide) wraps_u64 32 (by decide) x h0 (by omega)
  rw [show (2 : Int) ^ 32 = 4294967296 from by decide] at h
  exact h
theorem half_mul {x y : Int} (hx : 0 ≤ x ∧ x < 4294967296) (hy : 0 ≤ y ∧ y < 4294967296) : 0 ≤ x * y ∧ x * y ≤ 18446744065119617025 := by
  refine ⟨Int.mul_nonneg hx.1 hy.1, ?_⟩
  have : x * y ≤ 4294967295 * 4294967295 := Int.mul_le_mul (by omega) (by omega) hy.1 (by omega)
  omega
/-- The product of two limbs: the high limb and the low one. -/
theorem bits_Mul64_eq {x y : Int} (hx : 0 ≤ x ∧ x < 18446744073709551616) (hy : 0 ≤ y ∧ y < 18446744073709551616) :
    ∃ hi lo : Int, bits_Mul64.f x y = some (hi, lo) ∧ hi * 18446744073709551616 + lo = x * y ∧ (0 ≤ hi ∧ hi < 18446744073709551616) ∧ (0 ≤ lo ∧ lo < 18446744073709551616) := by
  unfold bits_Mul64.f
  have ex : x = x / 4294967296 * 4294967296 + x % 4294967296 := by omega
  have ey : y = y / 4294967296 * 4294967296 + y % 4294967296 := by omega
  have xl : 0 ≤ x % 4294967296 ∧ x % 4294967296 < 4294967296 := by omega
  have yl : 0 ≤ y % 4294967296 ∧ y % 4294967296 < 4294967296 := by omega
  have xh : 0 ≤ x / 4294967296 ∧ x / 4294967296 < 4294967296 := by omega
  have yh : 0 ≤ y / 4294967296 ∧ y / 4294967296 < 4294967296 := by omega
  rw [mask32m hx.1 hx.2, mask32m hy.1 hy.2]
  have p1 := half_mul xh yh
  have p2 := half_mul xh yl
  have p3 := half_mul xl yh
  have p4 := half_mul xl yl
  have e : x * y = (x / 4294967296 * (y / 4294967296)) * 18446744073709551616 + (x / 4294967296 * (y % 4294967296) + x % 4294967296 * (y / 4294967296)) * 4294967296 + x % 4294967296 * (y % 4294967296) := by
    generalize x / 4294967296 = a at *
    generalize x % 4294967296 = b at *
    generalize y / 4294967296 = c at *
    generalize y % 4294967296 = d at *
    subst ex ey
    grind
  rw [e]
  generalize x / 4294967296 * (y / 4294967296) = A at *
  generalize x / 4294967296 * (y % 4294967296) = B at *
  generalize x % 4294967296 * (y / 4294967296) = C at *
  generalize x % 4294967296 * (y % 4294967296) = D at *
  clear e ex ey xl yl xh yh hx hy
  rw [wu64_of (x := A) p1.1 (by omega), wu64_of (x := B) p2.1 (by omega), wu64_of (x := C) p3.1 (by omega), wu64_of (x := D) p4.1 (by omega)]
  rw [wu64_of (x := B + D / 4294967296) (by omega) (by omega)]
  rw [mask32m (x := B + D / 4294967296) (by omega) (by omega)]
  rw [wu64_of (x := (B + D / 4294967296) % 4294967296 + C) (by omega) (by omega)]
  rw [wu64_of (x := A + (B + D / 4294967296) / 4294967296) (by omega) (by omega)]
  rw [wu64_of (x := A + (B + D / 4294967296) / 4294967296 + _) (by omega) (by omega)]
  exact ⟨_, _, rfl, by rw [wu64]; omega, by omega, by rw [wu64]; omega⟩
end Go.Proofs.Yteabkedhdgnhgab.Z

namespace Go.Proofs.Yteabkedhdgnhgab.Z
open Go.RowKit Go.Proofs.Yteabkedhdgnhgab.F Go.Proofs.YteabkedhdgnhgabW.PrintWords
set_option linter.unusedSimpArgs false
set_option linter.unusedVariables false
theorem add0_facts {x y : Int} (hx : 0 ≤ x ∧ x < 18446744073709551616) (hy : 0 ≤ y ∧ y < 18446744073709551616) :
    add64_s x y 0 + 18446744073709551616 * add64_c x y 0 = x + y ∧ (0 ≤ add64_s x y 0 ∧ add64_s x y 0 < 18446744073709551616) ∧ (add64_c x y 0 = 0 ∨ add64_c x y 0 = 1) := by
  unfold add64_s add64_c
  omega
/-- All limbs times ten, with a carry. -/
theorem nat_Parse_l1 (bs : List Int) (m i : Int) {res : List Int × Int} : ∀ (S P : List Int) (c : Int), (P ++ S).length ≤ 1000000 → Dig (b64 : Int) P → Dig (b64 : Int) S → 0 ≤ c ∧ c ≤ 9 →
    (∀ (L : List Int) (c' : Int), Dig (b64 : Int) L → 0 ≤ c' ∧ c' ≤ 9 → L.length = (P ++ S).length → val (b64 : Int) L + (b64 : Int) ^ L.length * c' = val (b64 : Int) P + (b64 : Int) ^ P.length * (10 * val (b64 : Int) S + c) →
      Evt (fun k => if c' > 0 then (if L.length < 17592186044416 then (nat_Parse.l0 k (L ++ [c']) bs m (wrap64 (i + 1))) else none) else (nat_Parse.l0 k L bs m (wrap64 (i + 1)))) res) →
    Evt (fun k => nat_Parse.l1 k (P ++ S) c bs m i ((P ++ S).length : Int) (P.length : Int)) res := by
  intro S
  induction S with
  | nil =>
    intro P c hl dP dS hc cont
    refine Evt.succ ?_
    simp only [nat_Parse.l1]
    refine Evt.ite_neg (by simp) ?_
    refine cont (P ++ []) c (by simpa using dP) hc rfl ?_
    simp [val]
  | cons x S ih =>
    intro P c hl dP dS hc cont
    obtain ⟨hx, dS'⟩ := Dig.cons.1 dS
    have hx' : 0 ≤ x ∧ x < 18446744073709551616 := hx
    refine Evt.succ ?_
    simp only [nat_Parse.l1]
    have hlen : (P ++ x :: S).length = P.length + (S.length + 1) := by simp
    refine Evt.ite_pos (by rw [hlen]; omega) (Evt.ite_pos (by omega) (Evt.ite_pos (by rw [hlen]; omega) ?_))
    have er : rd (P ++ x :: S) (P.length : Int) = x := by rw [rd_nat]; simp
    rw [er]
    obtain ⟨hi, lo, e1, e2, h3, h4⟩ := bits_Mul64_eq hx' (y := 10) (by omega)
    rw [e1]
    refine Evt.congr ?_ (fun k => rfl) rfl
    simp only [Option.bind_some]
    obtain ⟨a1, a2, a3⟩ := add0_facts h4 (y := c) ⟨hc.1, by omega⟩
    refine Evt.ite_pos (carry_of (Or.inl rfl)) ?_
    generalize add64_s lo c 0 = s at *
    generalize add64_c lo c 0 = q at *
    rw [wu64_of (x := hi + q) (by omega) (by omega), w64 (by omega) (by rw [hlen] at hl; omega), Int.toNat_natCast, set_at]
    have hd : 0 ≤ s ∧ s < (b64 : Int) := a2
    have dP' : Dig (b64 : Int) (P ++ [s]) := Dig.append.2 ⟨dP, Dig.cons.2 ⟨hd, Dig.nil⟩⟩
    have hc' : 0 ≤ hi + q ∧ hi + q ≤ 9 := by omega
    have h := ih (P ++ [s]) (hi + q) (by simpa [Nat.add_assoc, Nat.add_comm 1] using hl) dP' dS' hc' ?_
    · have e5 : P ++ [s] ++ S = P ++ s :: S := by simp
      have e6 : (P ++ s :: S).length = (P ++ x :: S).length := by simp
      rw [e5, e6] at h
      have e7 : ((P ++ [s]).length : Int) = (P.length : Int) + 1 := by simp
      rw [e7] at h
      exact h
    · intro L c' dL hcc hL hv
      refine cont L c' dL hcc (by rw [hL]; simp) ?_
      rw [hv, val_append, List.length_append, List.length_singleton, Int.pow_succ]
      simp only [val, Int.mul_zero, Int.add_zero]
      have e8 : s + (b64 : Int) * (hi + q) = 10 * x + c := by
        show s + 18446744073709551616 * (hi + q) = 10 * x + c
        omega
      generalize (b64 : Int) ^ P.length = W at *
      generalize val (b64 : Int) P = p at *
      generalize val (b64 : Int) S = t at *
      generalize (b64 : Int) = B at *
      have e9 : W * (10 * (x + B * t) + c) = W * (s + B * (hi + q)) + W * (B * (10 * t)) := by rw [e8]; grind
      rw [e9]
      grind
theorem nat_Parse_l0 (s : ByteArray) (hs : s.size ≤ 1240) (n : Nat) : ∀ (i : Nat) (x : List Int), i + n = s.size → Dig (b64 : Int) x → x.length ≤ i → num x = valT s i → (∀ j, j < i → 48 ≤ bt s (j : Int) ∧ bt s (j : Int) ≤ 57) →
    Evt (fun k => nat_Parse.l0 k x (bytesOf s) (s.size : Int) (i : Int)) (parseW s) := by
  induction n with
  | zero =>
    intro i x hi dx hx hv hf
    refine Evt.succ ?_
    simp only [nat_Parse.l0]
    refine Evt.ite_neg (by omega) ?_
    refine Evt.bind (nat_told_ev x (by omega) dx) ?_
    have hfg : figs s := fun j hj => hf j (by omega)
    rw [parseW, if_pos hfg, hv, show i = s.size by omega]
    exact Evt.pure _
  | succ n ih =>
    intro i x hi dx hx hv hf
    refine Evt.succ ?_
    simp only [nat_Parse.l0]
    refine Evt.ite_pos (by omega) (Evt.ite_pos (by omega) (Evt.ite_pos (by rw [bytesOf_length]; omega) ?_))
    rw [rd_bytesOf]
    have hr := bt_range s (i : Int)
    by_cases h1 : bt s (i : Int) < 48
    · refine Evt.ite_pos h1 (Evt.succ ?_)
      simp only [nat_Parse.j2]
      refine Evt.ite_pos trivial ?_
      rw [parseW, if_neg (fun hh => by have := hh i (by omega); omega)]
      exact Evt.pure _
    · refine Evt.ite_neg h1 (Evt.succ ?_)
      simp only [nat_Parse.j2]
      by_cases h2 : bt s (i : Int) > 57
      · refine Evt.ite_pos (decide_eq_true h2) ?_
        rw [parseW, if_neg (fun hh => by have := hh i (by omega); omega)]
        exact Evt.pure _
      · refine Evt.ite_neg (by simpa using h2) ?_
        rw [show (bt s (i : Int) - 48) % 256 = bt s (i : Int) - 48 from by omega]
        have hf' : ∀ j, j < i + 1 → 48 ≤ bt s (j : Int) ∧ bt s (j : Int) ≤ 57 := fun j hj => by
          by_cases e : j = i
          · subst e; omega
          · exact hf j (by omega)
        have h := nat_Parse_l1 (bytesOf s) (s.size : Int) (i : Int) (res := parseW s) x [] (bt s (i : Int) - 48) (by simp; omega) Dig.nil dx (by omega) ?_
        · simpa using h
        · intro L c' dL hc' hL hval
          have hL' : L.length = x.length := by simpa using hL
          have hval' : val (b64 : Int) L + (b64 : Int) ^ L.length * c' = 10 * (num x : Int) + (bt s (i : Int) - 48) := by
            rw [hval, num_val dx]; simp [val]
          have hV : (valT s (i + 1) : Int) = val (b64 : Int) L + (b64 : Int) ^ L.length * c' := by
            rw [hval', valT, hv]; omega
          rw [w64 (by omega) (by omega)]
          by_cases h3 : c' > 0
          · refine Evt.ite_pos h3 (Evt.ite_pos (by omega) ?_)
            have dL' : Dig (b64 : Int) (L ++ [c']) := Dig.append.2 ⟨dL, Dig.cons.2 ⟨⟨hc'.1, by have : (b64 : Int) = 18446744073709551616 := rfl; omega⟩, Dig.nil⟩⟩
            have hn : num (L ++ [c']) = valT s (i + 1) := by
              have e := num_val dL'
              rw [val_append] at e
              simp only [val, Int.mul_zero, Int.add_zero] at e
              omega
            exact ih (i + 1) (L ++ [c']) (by omega) dL' (by simp; omega) hn hf'
          · refine Evt.ite_neg h3 ?_
            have hc0 : c' = 0 := by omega
            subst hc0
            have hn : num L = valT s (i + 1) := by
              have e := num_val dL
              rw [Int.mul_zero, Int.add_zero] at hV
              omega
            exact ih (i + 1) L (by omega) dL (by omega) hn hf'
theorem nat_Parse_j0 (s : ByteArray) (hs : s.size ≤ 1240) : Evt (fun k => nat_Parse.j0 k s false) (parseW s) := by
  refine Evt.succ ?_
  simp only [nat_Parse.j0]
  refine Evt.ite_neg (by simp) (Evt.ite_pos (by omega) (Evt.ite_pos (by omega) ?_))
  simp only [Option.bind_some]
  rw [bytesOf_length]
  exact nat_Parse_l0 s hs s.size 0 [] (by omega) Dig.nil (by simp) rfl (fun j hj => absurd hj (Nat.not_lt_zero _))
theorem nat_Parse_no (s : ByteArray) : Evt (fun k => nat_Parse.j0 k s true) (([] : List Int), 5) := by
  refine Evt.succ ?_
  simp only [nat_Parse.j0]
  exact Evt.ite_pos trivial (Evt.pure _)
theorem toList_nil (s : ByteArray) : s.toList = ([] : List UInt8) ↔ s.size < 1 := by
  rw [ByteArray.toList_eq]
  have h := data_length s
  constructor
  · intro e; rw [e] at h; simp at h; omega
  · intro e; exact List.length_eq_zero_iff.1 (by omega)
theorem nat_Parse_ev (s : ByteArray) : Evt (fun k => nat_Parse.f k s) (parseT s) := by
  unfold nat_Parse.f parseT
  by_cases h0 : s.size < 1
  · rw [if_pos (Or.inl h0)]
    exact Evt.ite_pos ((toList_nil s).2 h0) (nat_Parse_no s)
  · refine Evt.ite_neg (fun e => h0 ((toList_nil s).1 e)) ?_
    by_cases h1 : (s.size : Int) > 1240
    · rw [if_pos (Or.inr (Or.inl (by omega)))]
      exact Evt.ite_pos h1 (nat_Parse_no s)
    · refine Evt.ite_neg h1 ?_
      by_cases h2 : (s.size : Int) > 1
      · refine Evt.ite_pos h2 (Evt.ite_pos (by omega) ?_)
        by_cases h3 : bt s 0 = 48
        · rw [if_pos (Or.inr (Or.inr ⟨by omega, h3⟩)), h3]
          exact nat_Parse_no s
        · rw [if_neg (by omega), show (bt s 0 == 48) = false from by simpa using h3]
          exact nat_Parse_j0 s (by omega)
      · rw [if_neg (by omega)]
        exact Evt.ite_neg h2 (nat_Parse_j0 s (by omega))
end Go.Proofs.Yteabkedhdgnhgab.Z

namespace Go.Proofs.Yteabkedhdgnhgab.Z
open Go.RowKit Go.Proofs.Yteabkedhdgnhgab.F Go.Proofs.YteabkedhdgnhgabW.PrintWords
set_option linter.unusedSimpArgs false
set_option linter.unusedVariables false
theorem windbreakref01_Right_eq {l : List Int} (h : l.length ≤ maxLen) : windbreakref01_Right.f l = some (rightB l) := by
  unfold maxLen at h
  unfold windbreakref01_Right.f rightB
  by_cases h1 : l.length ≤ 64
  · rw [if_pos (by omega)]
    by_cases h2 : l.length = 0
    · rw [if_pos (by omega)]
      simp [h1, h2]
    · rw [if_neg (by omega), w64 (by omega) (by omega), if_pos (by omega), if_pos (by omega), rd_getD]
      rw [show ((l.length : Int) - 1).toNat = l.length - 1 from by omega]
      have h3 : (l.length == 0) = false := by simpa using h2
      rw [h3]
      simp [h1]
  · rw [if_neg (by omega)]
    simp [h1]
end Go.Proofs.Yteabkedhdgnhgab.Z

namespace Go.Proofs.Yteabkedhdgnhgab.Z
open Go.RowKit Go.Proofs.Yteabkedhdgnhgab.F Go.Proofs.YteabkedhdgnhgabW.PrintWords
set_option linter.unusedSimpArgs false
set_option linter.unusedVariables false
theorem same_loop (l m : List Int) (h : l.length ≤ maxLen) (hlm : l.length = m.length) (d : Nat) : ∀ i : Nat, i ≤ l.length → l.length - i = d → Evt (fun k => windbreakref01_Same.l0 k l m (i : Int)) (decide (l.drop i = m.drop i)) := by
  unfold maxLen at h
  induction d with
  | zero =>
    intro i hi hd
    refine Evt.succ ?_
    simp only [windbreakref01_Same.l0]
    refine Evt.ite_neg (by omega) ?_
    rw [List.drop_of_length_le (by omega), List.drop_of_length_le (by omega)]
    exact Evt.pure _
  | succ d ih =>
    intro i hi hd
    have hl : i < l.length := by omega
    have hm : i < m.length := by omega
    refine Evt.succ ?_
    simp only [windbreakref01_Same.l0]
    refine Evt.ite_pos (by omega) (Evt.ite_pos (by omega) (Evt.ite_pos (by omega) ?_))
    have e1 : rd l (i : Int) = l[i] := by simp [rd_nat, hl]
    have e2 : rd m (i : Int) = m[i] := by simp [rd_nat, hm]
    rw [e1, e2, w64 (by omega) (by omega), List.drop_eq_getElem_cons hl, List.drop_eq_getElem_cons hm]
    by_cases he : l[i] = m[i]
    · refine Evt.ite_pos he ?_
      refine (ih (i + 1) (by omega) (by omega)).congr (fun k => rfl) ?_
      rw [he]
      simp only [List.cons.injEq, true_and]
    · refine Evt.ite_neg he ?_
      have : decide (l[i] :: l.drop (i + 1) = m[i] :: m.drop (i + 1)) = false := by
        simp only [List.cons.injEq, decide_eq_false_iff_not]
        exact fun hh => he hh.1
      rw [this]
      exact Evt.pure _
theorem same_ev (l m : List Int) (h : l.length ≤ maxLen) : Evt (fun k => windbreakref01_Same.f k l m) (decide (l = m)) := by
  unfold windbreakref01_Same.f
  by_cases hlm : l.length = m.length
  · refine Evt.ite_pos (by omega) ?_
    exact (same_loop l m h hlm l.length 0 (Nat.zero_le _) (by omega)).congr (fun k => rfl) (by simp)
  · refine Evt.ite_neg (by omega) ?_
    have : decide (l = m) = false := by
      simp only [decide_eq_false_iff_not]
      intro e
      exact hlm (by rw [e])
    rw [this]
    exact Evt.pure _
end Go.Proofs.Yteabkedhdgnhgab.Z

namespace Go.Proofs.Yteabkedhdgnhgab.Pure
open Go.RowKit Go.Proofs.Yteabkedhdgnhgab.F Go.Proofs.Yteabkedhdgnhgab.Z Go.Proofs.YteabkedhdgnhgabW.PrintWords
set_option linter.unusedSimpArgs false
set_option linter.unusedVariables false
theorem bytes_nums (l : List Int) (h : ∀ x ∈ l, 0 ≤ x ∧ x < 256) : bytesOf (strOfNums l) = l := by
  unfold bytesOf
  rw [strOfNums_data, List.map_map]
  conv => rhs; rw [← List.map_id l]
  refine List.map_congr_left (fun x hx => ?_)
  have := h x hx
  simp only [Function.comp, UInt8.toNat_ofNat', id]
  omega
theorem valT_val (s : ByteArray) (n : Nat) (hn : n ≤ s.size) (h : ∀ j, j < n → 48 ≤ bt s (j : Int)) : (valT s n : Int) = val 10 (((bytesOf s).take n).reverse.map fun x => x - 48) := by
  induction n with
  | zero => simp [valT, val]
  | succ n ih =>
    have hl : n < (bytesOf s).length := by rw [bytesOf_length]; omega
    have h1 := h n (by omega)
    have e : (bytesOf s)[n] = bt s (n : Int) := by
      have := rd_bytesOf s (n : Int)
      rw [rd_nat, List.getD_eq_getElem?_getD, List.getElem?_eq_getElem hl] at this
      exact this
    rw [valT, List.take_succ_eq_append_getElem hl, List.reverse_append]
    simp only [List.reverse_cons, List.reverse_nil, List.nil_append, List.cons_append, List.map_cons, val]
    rw [← ih (by omega) (fun j hj => h j (by omega)), e]
    omega
theorem ten_room (n : Nat) (hn : n = 1240) : b64 ^ 64 ≤ ten ^ n := by
  have h1 : (2 : Nat) ^ 205 ≤ ten ^ 62 := by decide
  obtain ⟨m, hm⟩ : ∃ m : Nat, m = 20 := ⟨_, rfl⟩
  have h2 : (2 ^ 205) ^ m ≤ (ten ^ 62) ^ m := Nat.pow_le_pow_left h1 m
  rw [← Nat.pow_mul, ← Nat.pow_mul, show 62 * m = n from by omega] at h2
  have h3 := b64_le_pow2 (m := 64) (n := 205 * m) (by omega)
  exact Nat.le_trans h3 h2
theorem letters_bytes (v : Nat) : ∀ x ∈ letters v, 48 ≤ x ∧ x ≤ 57 := by
  intro x hx
  obtain ⟨d, hd, rfl⟩ := List.mem_map.1 hx
  have h := toD_dig ten_two v d hd
  have : (ten : Int) = 10 := rfl
  omega
theorem parse_text (v : Nat) (hv : v < b64 ^ 64) : parseT (textL (letters v)) = (limbs v, 0) := by
  by_cases h0 : v = 0
  · subst h0
    rw [letters_zero]
    unfold textL
    rw [if_pos rfl]
    have hb : bt (⟨#[48]⟩ : ByteArray) 0 = 48 := by decide
    have hs : (⟨#[48]⟩ : ByteArray).size = 1 := rfl
    have hf : figs ⟨#[48]⟩ := by
      intro j hj
      obtain rfl : j = 0 := by omega
      show 48 ≤ bt (⟨#[48]⟩ : ByteArray) 0 ∧ bt (⟨#[48]⟩ : ByteArray) 0 ≤ 57
      rw [hb]; omega
    have hvv : valT ⟨#[48]⟩ 1 = 0 := by
      show 0 * 10 + (bt (⟨#[48]⟩ : ByteArray) 0 - 48).toNat = 0
      rw [hb]; rfl
    unfold parseT
    rw [if_neg (by rw [hs]; omega), parseW, if_pos hf, hs, hvv, toldV, if_pos hv]
  · have hne : letters v ≠ [] := by rw [letters_pos (by omega)]; simp
    have hlb := letters_bytes v
    have hrange : ∀ x ∈ (letters v).reverse, 0 ≤ x ∧ x < 256 := fun x hx => by have := hlb x (List.mem_reverse.1 hx); omega
    have hB := bytes_nums _ hrange
    have hlen : (letters v).length ≤ 1240 := by
      obtain ⟨n, hn⟩ : ∃ n : Nat, n = 1240 := ⟨_, rfl⟩
      have h1 : (toD ten v).length ≤ n := toD_len_le ten_two (Nat.lt_of_lt_of_le hv (ten_room n hn))
      unfold letters
      rw [List.length_map]
      omega
    unfold textL
    rw [if_neg hne]
    obtain ⟨s, hs⟩ : ∃ s, s = strOfNums (letters v).reverse := ⟨_, rfl⟩
    rw [← hs] at hB ⊢
    have hsz : s.size = (letters v).length := by rw [hs, strOfNums_size, List.length_reverse]
    have hbt : ∀ j, j < s.size → bt s (j : Int) = (letters v).getD ((letters v).length - 1 - j) 0 := by
      intro j hj
      have e := rd_bytesOf s (j : Int)
      rw [hB, rd_nat, List.getD_eq_getElem?_getD, List.getElem?_reverse (by omega), ← List.getD_eq_getElem?_getD] at e
      exact e.symm
    have hfig : figs s := by
      intro j hj
      rw [hbt j hj, List.getD_eq_getElem?_getD, List.getElem?_eq_getElem (by omega)]
      exact hlb _ (List.getElem_mem _)
    have hpos : 0 < (letters v).length := List.length_pos_iff.2 hne
    have hlead : bt s 0 ≠ 48 := by
      have e := hbt 0 (by omega)
      intro hh
      rw [show ((0 : Nat) : Int) = 0 from rfl] at e
      rw [hh] at e
      have hc := toD_can ten_two v
      have hne2 : toD ten v ≠ [] := fun h => hne (by unfold letters; rw [h]; rfl)
      have h3 := hc hne2
      apply h3
      rw [List.getLast_eq_getElem]
      have e2 : (letters v).length = (toD ten v).length := by unfold letters; rw [List.length_map]
      have hp2 : 0 < (toD ten v).length := by omega
      unfold letters at e
      rw [List.length_map, List.getD_eq_getElem?_getD, List.getElem?_map, List.getElem?_eq_getElem (show (toD ten v).length - 1 - 0 < (toD ten v).length by omega)] at e
      simp only [Option.map_some, Option.getD_some, Nat.sub_zero] at e
      omega
    have hval : valT s s.size = v := by
      have h1 := valT_val s s.size (Nat.le_refl _) (fun j hj => (hfig j hj).1)
      rw [List.take_of_length_le (by rw [bytesOf_length]; exact Nat.le_refl _), hB, List.reverse_reverse] at h1
      have e3 : (letters v).map (fun x => x - 48) = toD ten v := by
        unfold letters
        rw [List.map_map]
        conv => rhs; rw [← List.map_id (toD ten v)]
        refine List.map_congr_left (fun x _ => ?_)
        simp only [Function.comp, id]
        omega
      rw [e3] at h1
      have h2 := val_toD ten_two v
      have h4 : (valT s s.size : Int) = (v : Int) := h1.trans h2
      omega
    unfold parseT
    rw [if_neg (by rw [hsz]; rintro (h | h | h); · omega
                   · omega
                   · exact hlead h.2), parseW, if_pos hfig, hval, toldV, if_pos hv]
theorem read_bytes (v : Nat) (hv : v < b64 ^ 64) : readV (byts v).reverse = (limbs v, 0) := by
  have hl : (byts v).length ≤ 512 := by
    obtain ⟨m, hm⟩ : ∃ m : Nat, m = 512 := ⟨_, rfl⟩
    have h1 : (byts v).length ≤ m := by
      rw [byts_len_iff]
      refine bl_le ?_
      rw [b64_pow2, show 64 * 64 = 8 * m from by omega] at hv
      exact hv
    omega
  unfold readV
  rw [if_neg (by rw [List.length_reverse]; omega), List.reverse_reverse]
  have e : val (b8 : Int) (byts v) = (v : Int) := val_toD b8_two v
  rw [e]
  rfl
theorem text_one : (textV [1]).toList = [49] := by
  have e : textV [1] = strOfNums [49] := by
    unfold textV
    rw [if_pos (by decide), num_one (by omega), show (1 : Int).toNat = 1 from rfl, letters_pos (by omega), show 1 / 10 = 0 from rfl, letters_zero]
    rfl
  rw [e]
  first | decide +kernel | (simp [strOfNums, ByteArray.toList, ByteArray.toList.loop]; done) | rfl
theorem NatRead : windbreaklaw01_NatRead.Pure := by
  intro a ha _ wa
  apply Evt.get
  have da := dig_of_wf wa
  have d1 : Dig (b64 : Int) [1] := by intro x hx; simp at hx; subst hx; decide
  unfold windbreaklaw01_NatRead.f
  refine Evt.bind (Evt.of fun _ => windbreakref01_Right_eq ha) ?_
  refine Evt.cond' (fun hR => ?_) (fun _ => Evt.pure _)
  obtain ⟨hl, hc⟩ := (rightB_iff a).1 hR
  have hv := num_lt_p da hl
  have hE := limbs_num da hc
  refine Evt.bind (nat_Bytes_ev a ha da) ?_
  have eB : bytesV a = (byts (num a)).reverse := by unfold bytesV; rw [if_pos hR]
  rw [eB]
  have db : Dig (b8 : Int) (byts (num a)) := toD_dig b8_two (num a)
  have hbl : (byts (num a)).length ≤ maxLen := by
    have := byts_num_len da
    simp only [maxLen]; omega
  have dbr : Dig (b8 : Int) (byts (num a)).reverse := fun x hx => db x (List.mem_reverse.1 hx)
  refine Evt.bind (nat_Read_ev _ (by rw [List.length_reverse]; exact hbl) dbr 0 (Nat.zero_le _) (fun j hj => absurd hj (Nat.not_lt_zero _)) (fun hn => ?_)) ?_
  · rw [List.length_reverse] at hn
    have hcb : Z.Can (byts (num a)) := toD_can b8_two (num a)
    have h3 := can_last hcb (by omega)
    rw [List.getD_eq_getElem?_getD, List.getElem?_reverse hn, ← List.getD_eq_getElem?_getD, Nat.sub_zero]
    exact h3
  rw [List.drop_zero, read_bytes _ hv, hE]
  refine Evt.bind (nat_Text_ev a ha da) ?_
  have eT : textV a = textL (letters (num a)) := by unfold textV; rw [if_pos hR]
  rw [eT]
  refine Evt.bind (nat_Parse_ev _) ?_
  rw [parse_text _ hv, hE]
  refine Evt.bind (same_ev a a ha) ?_
  refine Evt.bind (same_ev a a ha) ?_
  refine Evt.bind (nat_Text_ev [1] (by simp [maxLen]) d1) ?_
  refine Evt.ite_pos text_one (Evt.ite_pos rfl (Evt.ite_pos rfl (Evt.ite_pos (by simp) ?_)))
  simp only [decide_true]
  exact Evt.pure _
end Go.Proofs.Yteabkedhdgnhgab.Pure

namespace Go.Proofs.Yteabkedhdgnhgab.natRead
open Go.ChangeShapes Go.WideShapes Go.ChangeAt Go.RowKit
open Go.ChangeMaps (open_string shut_string)
set_option linter.unusedVariables false
theorem own : ownKnob Try.prog.godebug = none := by kernel_rfl
theorem laidOut : laidOutB Try.prog = true := by kernel_rfl
def IsRow (k : IntKind) (w : World) (a : Option Addr) (len cap : Nat) (zs : List Int) : Prop :=
  (a = none ∧ len = 0 ∧ cap = 0 ∧ zs = []) ∨
  ∃ x, a = some x ∧ len ≤ cap ∧ cap ≤ maxLen ∧ zs.length = cap ∧ (∀ i, i < zs.length → w.cell? (x.add i) = some (.int k (zs.getD i 0))) ∧ ∀ n ∈ zs, (Lit.int k n).wf = true
set_option maxRecDepth 100000 in
theorem lifted (os : Os) (started : os.Started) (H : Type) (enc : TypeId × Value → H) :
    ReturnsInHanded {} Try.checked os 5 .any (Rows.natReadSpec.pre6 enc Try.prog Try.f5 Rows.natReadRow.domain false) (Rows.natReadSpec.post enc Try.prog Try.f5 false true false false) := by
  refine returnsInHanded_of_change_sized (C := Try.checked) own started (by kernel_rfl) Try.func5
    (ChangeSpec.witness6 (enc := enc) (C := Try.checked) false ⟨#[], #[.slice none 0 0], []⟩ 8 (by kernel_rfl) (by kernel_rfl) (by kernel_rfl) (by kernel_rfl)) ?_
  intro W base args ds gs before hval0 hW hcnd hsz0 _
  have hsz : (DataW.weightsEach Try.prog (Try.f5.params.toList ++ Rows.natReadSpec.plain.varTypes Try.prog) (ds ++ gs)).all (· ≤ reachBytes) = true := hsz0
  have hval : ∀ (j : Nat) t v, Try.f5.params[j]? = some t → args[j]? = some v → Value.okWide Try.prog W .any base t v := hval0
  have hW' := hW
  obtain ⟨p, q, hA0, hV, rfl, hfz, hnd⟩ := hW
  have hA : DataW.TrodAll enc Try.prog W 0 (fun _ => true) true Try.f5.params.toList args.toList ds p := hA0
  rw [Try.params5] at hA hval hsz
  obtain ⟨v0, vs0, d0, ds0, p0, q0, hargs, rfl, rfl, h0, r0⟩ := trodAll_cons hA
  obtain ⟨rfl, rfl, rfl⟩ := trodAll_nil r0
  obtain rfl : args = #[v0] := by cases args; simp_all
  obtain ⟨rfl, rfl⟩ := trodVars_none hV
  obtain ⟨a0, len0, cap0, rfl⟩ := okWide_slice Try.underlying23 (hval 0 23 v0 rfl rfl)
  have k0 := h0
  have lt0 : ∀ x ∈ p0, x.block < W.heap.size := by obtain ⟨m, hm⟩ := k0; exact DataW.trod_lt m _ _ _ hm
  obtain ⟨z0, w0⟩ : ∃ zs, IsRow .u64 W a0 len0 cap0 zs := by
    obtain ⟨fuel, hf⟩ := h0
    rcases open_ints Try.underlying23 Try.underlying29 (by kernel_rfl) hf with ⟨hcs, _⟩ | ⟨x, l, c, zs, hcs, _, hl, hm, hz, _, hcell, hwz⟩
    · simp [Value.cells] at hcs
      obtain ⟨rfl, rfl, rfl⟩ := hcs
      exact ⟨[], .inl ⟨rfl, rfl, rfl, rfl⟩⟩
    · simp [Value.cells] at hcs
      obtain ⟨rfl, rfl, rfl⟩ := hcs
      exact ⟨zs, .inr ⟨_, rfl, hl, hm, by simpa using hz, hcell, hwz⟩⟩
  have y0 : len0 * 8 ≤ 140737488351232 := Go.Proofs.YteabkedhdgnhgabW.PrintWords.sized_ints hsz (j := 0) (t := 23) rfl rfl Try.underlying23 Try.underlying29 (by kernel_rfl) (by kernel_rfl) h0
  clear hA0 hval0 hsz0 hsz
  refine (F.windbreaklaw01_NatRead.walk Pure.NatRead a0 len0 cap0 z0 W w0 y0).mono fun e W' ⟨he, bel⟩ => ?_
  subst he
  exact ⟨_, rfl, _, _, _, [], _, [], hW', trodAll_mk1 (shut_bool Try.underlying4 _), (trodAll_cons_mk (Below.trod laidOut (by kernel_rfl) (of_decide_eq_true (by kernel_rfl)) k0 bel lt0) trodAll_mk0), rfl, bel.frame _, fun h => by cases h⟩
theorem over : Rows.natReadRow.holds Try.pinned (OpenSpec.ofChange Rows.natReadSpec) :=
  OpenClaim.holds_of_wide 5 Try.f5 rfl rfl rfl rfl rfl rfl rfl ⟨rfl, rfl, rfl, rfl, rfl⟩ rfl rfl rfl rfl rfl (by kernel_rfl) Try.func5 (by kernel_rfl)
    (of_decide_eq_true (by kernel_rfl)) (by unfold Func.isWrapper; first | (rw [if_pos (by decide +kernel)]; kernel_rfl) | (rw [if_neg (by decide +kernel)]; exact ⟨rfl, rfl⟩))
    (fun os started H enc _ => lifted os started H enc)
theorem proved : Rows.NatReadSaid := over
#print axioms proved
end Go.Proofs.Yteabkedhdgnhgab.natRead
namespace Go.Proofs.Yteabkedhdgnhgab
/-- The row, under a short name, for the claim. -/
theorem natRead_holds : Rows.NatReadSaid := natRead.proved
end Go.Proofs.Yteabkedhdgnhgab
