/- Proved: the law MontNews of layer 2: of which moduli there is a ring, as the document says; for every input, without a condition. -/
import Derived.Test.YtgeanpnkllnipabMMontNewsb
import Derived.SizedLaws
import Derived.ChangeSlices
import Derived.Test.YtgeanpnkllnipabRows
import Derived.WalkKit
import Derived.ProofKit
import Derived.OpenShut
import Derived.ShutString
import Derived.ChangeOld
import Derived.Below
section
namespace Go.Proofs.Ytgeanpnkllnipab.Z
open Go.RowKit Go.Proofs.Ytgeanpnkllnipab.F Go.Proofs.YtgeanpnkllnipabW.PrintWords
set_option linter.unusedSimpArgs false
set_option linter.unusedVariables false
theorem len8 : ∀ n : Fin 256, bt (⟨#[0, 1, 2, 2, 3, 3, 3, 3, 4, 4, 4, 4, 4, 4, 4, 4, 5, 5, 5, 5, 5, 5, 5, 5, 5, 5, 5, 5, 5, 5, 5, 5, 6, 6, 6, 6, 6, 6, 6, 6, 6, 6, 6, 6, 6, 6, 6, 6, 6, 6, 6, 6, 6, 6, 6, 6, 6, 6, 6, 6, 6, 6, 6, 6, 7, 7, 7, 7, 7, 7, 7, 7, 7, 7, 7, 7, 7, 7, 7, 7, 7, 7, 7, 7, 7, 7, 7, 7, 7, 7, 7, 7, 7, 7, 7, 7, 7, 7, 7, 7, 7, 7, 7, 7, 7, 7, 7, 7, 7, 7, 7, 7, 7, 7, 7, 7, 7, 7, 7, 7, 7, 7, 7, 7, 7, 7, 7, 7, 8, 8, 8, 8, 8, 8, 8, 8, 8, 8, 8, 8, 8, 8, 8, 8, 8, 8, 8, 8, 8, 8, 8, 8, 8, 8, 8, 8, 8, 8, 8, 8, 8, 8, 8, 8, 8, 8, 8, 8, 8, 8, 8, 8, 8, 8, 8, 8, 8, 8, 8, 8, 8, 8, 8, 8, 8, 8, 8, 8, 8, 8, 8, 8, 8, 8, 8, 8, 8, 8, 8, 8, 8, 8, 8, 8, 8, 8, 8, 8, 8, 8, 8, 8, 8, 8, 8, 8, 8, 8, 8, 8, 8, 8, 8, 8, 8, 8, 8, 8, 8, 8, 8, 8, 8, 8, 8, 8, 8, 8, 8, 8, 8, 8, 8, 8, 8, 8, 8, 8, 8, 8, 8, 8, 8, 8, 8, 8]⟩ : ByteArray) ((n.val : Nat) : Int) = ((bl n.val : Nat) : Int) := by decide +kernel
theorem len8_at {x : Int} (h0 : 0 ≤ x) (h1 : x < 256) : bt (⟨#[0, 1, 2, 2, 3, 3, 3, 3, 4, 4, 4, 4, 4, 4, 4, 4, 5, 5, 5, 5, 5, 5, 5, 5, 5, 5, 5, 5, 5, 5, 5, 5, 6, 6, 6, 6, 6, 6, 6, 6, 6, 6, 6, 6, 6, 6, 6, 6, 6, 6, 6, 6, 6, 6, 6, 6, 6, 6, 6, 6, 6, 6, 6, 6, 7, 7, 7, 7, 7, 7, 7, 7, 7, 7, 7, 7, 7, 7, 7, 7, 7, 7, 7, 7, 7, 7, 7, 7, 7, 7, 7, 7, 7, 7, 7, 7, 7, 7, 7, 7, 7, 7, 7, 7, 7, 7, 7, 7, 7, 7, 7, 7, 7, 7, 7, 7, 7, 7, 7, 7, 7, 7, 7, 7, 7, 7, 7, 7, 8, 8, 8, 8, 8, 8, 8, 8, 8, 8, 8, 8, 8, 8, 8, 8, 8, 8, 8, 8, 8, 8, 8, 8, 8, 8, 8, 8, 8, 8, 8, 8, 8, 8, 8, 8, 8, 8, 8, 8, 8, 8, 8, 8, 8, 8, 8, 8, 8, 8, 8, 8, 8, 8, 8, 8, 8, 8, 8, 8, 8, 8, 8, 8, 8, 8, 8, 8, 8, 8, 8, 8, 8, 8, 8, 8, 8, 8, 8, 8, 8, 8, 8, 8, 8, 8, 8, 8, 8, 8, 8, 8, 8, 8, 8, 8, 8, 8, 8, 8, 8, 8, 8, 8, 8, 8, 8, 8, 8, 8, 8, 8, 8, 8, 8, 8, 8, 8, 8, 8, 8, 8, 8, 8, 8, 8, 8, 8]⟩ : ByteArray) x = ((bl x.toNat : Nat) : Int) := by
  obtain ⟨n, rfl⟩ := Int.eq_ofNat_of_zero_le h0
  exact len8 ⟨n, by omega⟩
set_option maxRecDepth 100000 in
theorem len64_j {x : Int} (h0 : 0 ≤ x) (h1 : x < 4294967296) (c : Int) (hc : 0 ≤ c ∧ c ≤ 1000) : Evt (fun k => bits_Len64.j0 k x c) (c + ((bl x.toNat : Nat) : Int)) := by
  have key : ∀ (s : Nat) (y : Int), 0 ≤ y → y < 256 → (s ≤ 24) → (y = 0 → s = 0) → y = x / 2 ^ s → ((bl x.toNat : Nat) : Int) = (s : Int) + ((bl y.toNat : Nat) : Int) := by
    intro s y hy0 hy1 hs hz he
    have : bl x.toNat = s + bl y.toNat := by
      by_cases h : y = 0
      · have hs0 := hz h
        subst hs0
        simp at he
        rw [he, Nat.zero_add]
      · have e : y.toNat = x.toNat / 2 ^ s := by
          rw [he]
          have h2 : x = ((x.toNat : Nat) : Int) := by omega
          rw [h2]
          have h3 : ((2 : Int) ^ s) = ((2 ^ s : Nat) : Int) := by simp
          rw [h3, ← Int.natCast_ediv, Int.toNat_natCast, Int.toNat_natCast]
        rw [e]
        exact bl_shift x.toNat s (by rw [← e]; omega)
    omega
  refine Evt.succ ?_
  simp only [bits_Len64.j0]
  by_cases c1 : x ≥ 65536
  · refine Evt.ite_pos c1 ?_
    by_cases c2 : x / 65536 ≥ 256
    · refine Evt.ite_pos c2 (Evt.ite_pos (by omega) (Evt.ite_pos (by omega) ?_))
      have e : x / 65536 / 256 % 256 = x / 65536 / 256 := by omega
      rw [e, len8_at (by omega) (by omega)]
      have k1 := key 24 (x / 65536 / 256) (by omega) (by omega) (by omega) (by omega) (by rw [Int.ediv_ediv_of_nonneg (by omega)]; rfl)
      have k2 := bl_le8 (x := (x / 65536 / 256).toNat) (by omega)
      rw [w64 (show -9223372036854775808 ≤ c + 16 by omega) (by omega), w64 (show -9223372036854775808 ≤ c + 16 + 8 by omega) (by omega), w64 (show -9223372036854775808 ≤ ((bl (x / 65536 / 256).toNat : Nat) : Int) by omega) (by omega), w64 (by omega) (by omega), k1]
      refine (Evt.pure _).congr (fun k => rfl) (by omega)
    · refine Evt.ite_neg c2 (Evt.ite_pos (by omega) (Evt.ite_pos (by omega) ?_))
      have e : x / 65536 % 256 = x / 65536 := by omega
      rw [e, len8_at (by omega) (by omega)]
      have k1 := key 16 (x / 65536) (by omega) (by omega) (by omega) (by omega) rfl
      have k2 := bl_le8 (x := (x / 65536).toNat) (by omega)
      rw [w64 (show -9223372036854775808 ≤ c + 16 by omega) (by omega), w64 (show -9223372036854775808 ≤ ((bl (x / 65536).toNat : Nat) : Int) by omega) (by omega), w64 (by omega) (by omega), k1]
      refine (Evt.pure _).congr (fun k => rfl) (by omega)
  · refine Evt.ite_neg c1 ?_
    by_cases c2 : x ≥ 256
    · refine Evt.ite_pos c2 (Evt.ite_pos (by omega) (Evt.ite_pos (by omega) ?_))
      have e : x / 256 % 256 = x / 256 := by omega
      rw [e, len8_at (by omega) (by omega)]
      have k1 := key 8 (x / 256) (by omega) (by omega) (by omega) (by omega) rfl
      have k2 := bl_le8 (x := (x / 256).toNat) (by omega)
      rw [w64 (show -9223372036854775808 ≤ c + 8 by omega) (by omega), w64 (show -9223372036854775808 ≤ ((bl (x / 256).toNat : Nat) : Int) by omega) (by omega), w64 (by omega) (by omega), k1]
      refine (Evt.pure _).congr (fun k => rfl) (by omega)
    · refine Evt.ite_neg c2 (Evt.ite_pos (by omega) (Evt.ite_pos (by omega) ?_))
      have e : x % 256 = x := by omega
      rw [e, len8_at (by omega) (by omega)]
      have k2 := bl_le8 (x := x.toNat) (by omega)
      rw [w64 (show -9223372036854775808 ≤ ((bl x.toNat : Nat) : Int) by omega) (by omega), w64 (by omega) (by omega)]
      exact Evt.pure _
theorem bits_Len64_ev {x : Int} (h0 : 0 ≤ x) (h1 : x < 18446744073709551616) : Evt (fun k => bits_Len64.f k x) ((bl x.toNat : Nat) : Int) := by
  unfold bits_Len64.f
  by_cases c1 : x ≥ 4294967296
  · refine Evt.ite_pos c1 ?_
    refine (len64_j (x := x / 4294967296) (by omega) (by omega) 32 (by omega)).congr (fun k => rfl) ?_
    have e : (x / 4294967296).toNat = x.toNat / 2 ^ 32 := by omega
    have := bl_shift x.toNat 32 (by omega)
    rw [e]
    omega
  · refine Evt.ite_neg c1 ?_
    exact (len64_j (x := x) (by omega) (by omega) 0 (by omega)).congr (fun k => rfl) (by omega)
theorem div_corr {Y a b u c q r : Int} (hY : Y = a * 4294967296 + b) (ha : 2147483648 ≤ a ∧ a < 4294967296) (hb : 0 ≤ b ∧ b < 4294967296) (hu : 0 ≤ u ∧ u < Y) (hc : 0 ≤ c ∧ c < 4294967296)
    (hq : (u * 4294967296 + c) / Y ≤ q) (hq2 : q ≤ 4294967297) (hr : r = u - q * a) (hr0 : 0 ≤ r ∧ r < 4294967296) :
    ((q ≥ 4294967296 ∨ q * b > 4294967296 * r + c) → (u * 4294967296 + c) / Y ≤ q - 1) ∧ (¬ (q ≥ 4294967296 ∨ q * b > 4294967296 * r + c) → (u * 4294967296 + c) / Y = q) ∧
    ((q ≥ 4294967296 ∨ q * b > 4294967296 * r + c) → r + a ≥ 4294967296 → (u * 4294967296 + c) / Y = q - 1) := by
  have hY0 : 0 < Y := by omega
  have e1 : q * Y = q * a * 4294967296 + q * b := by rw [hY]; grind
  have e2 : (q - 1) * Y = q * Y - Y := by grind
  have lt : (u * 4294967296 + c) / Y < 4294967296 := by
    apply Int.ediv_lt_of_lt_mul hY0
    omega
  have up : (q ≥ 4294967296 ∨ q * b > 4294967296 * r + c) → (u * 4294967296 + c) / Y ≤ q - 1 := by
    intro h
    rcases h with h | h
    · omega
    · have : (u * 4294967296 + c) / Y < q := by
        apply Int.ediv_lt_of_lt_mul hY0
        rw [e1]; omega
      omega
  refine ⟨up, fun h => ?_, fun h h2 => ?_⟩
  · have : q ≤ (u * 4294967296 + c) / Y := by
      rw [Int.le_ediv_iff_mul_le hY0, e1]
      omega
    omega
  · have h3 := up h
    have h4 : (q - 1) * b ≤ 4294967296 * 4294967295 := by
      by_cases h5 : q - 1 ≤ 0
      · have : (q - 1) * b ≤ 0 := Int.mul_nonpos_of_nonpos_of_nonneg h5 hb.1
        omega
      · exact Int.mul_le_mul (by omega) (by omega) hb.1 (by omega)
    have h6 : (q - 1) * b = q * b - b := by grind
    have : q - 1 ≤ (u * 4294967296 + c) / Y := by
      rw [Int.le_ediv_iff_mul_le hY0, e2, e1]
      omega
    omega
theorem mul_u64 {x y : Int} (hx : 0 ≤ x ∧ x < 4294967296) (hy : 0 ≤ y ∧ y < 4294967296) : 0 ≤ x * y ∧ x * y < 18446744073709551616 := by
  refine ⟨Int.mul_nonneg hx.1 hy.1, ?_⟩
  have : x * y ≤ 4294967295 * 4294967295 := Int.mul_le_mul (by omega) (by omega) hy.1 (by omega)
  omega
theorem div_l0 {Y a b u c c0 s : Int} (hY : Y = a * 4294967296 + b) (ha : 2147483648 ≤ a ∧ a < 4294967296) (hb : 0 ≤ b ∧ b < 4294967296) (hu : 0 ≤ u ∧ u < Y) (hc : 0 ≤ c ∧ c < 4294967296) {res : Int × Int}
    (fin : Evt (fun k => bits_Div64.j2 k Y s a b u c c0 ((u * 4294967296 + c) / Y)) res) (n : Nat) : ∀ q r : Int, (u * 4294967296 + c) / Y ≤ q → q ≤ 4294967297 → r = u - q * a → 0 ≤ r ∧ r < 4294967296 → q - (u * 4294967296 + c) / Y ≤ n →
    Evt (fun k => bits_Div64.l0 k Y s a b u c c0 q r) res := by
  have hQ0 : 0 ≤ (u * 4294967296 + c) / Y := Int.ediv_nonneg (by omega) (by omega)
  induction n with
  | zero =>
    intro q r hq hq2 hr hr0 hn
    obtain ⟨g1, g2, g3⟩ := div_corr hY ha hb hu hc hq hq2 hr hr0
    have hno : ¬ (q ≥ 4294967296 ∨ q * b > 4294967296 * r + c) := fun h => by have := g1 h; omega
    refine Evt.succ ?_
    simp only [bits_Div64.l0]
    refine Evt.ite_neg (fun h => hno (Or.inl h)) ?_
    have hm := mul_u64 (x := q) (y := b) ⟨by omega, by omega⟩ hb
    rw [wu64_of hm.1 hm.2, wu64_of (x := 4294967296 * r) (by omega) (by omega), wu64_of (x := 4294967296 * r + c) (by omega) (by omega)]
    refine Evt.succ ?_
    simp only [bits_Div64.j1]
    refine Evt.ite_neg (by simp only [decide_eq_true_eq]; exact fun h => hno (Or.inr h)) ?_
    rw [← g2 hno]
    exact fin
  | succ n ih =>
    intro q r hq hq2 hr hr0 hn
    obtain ⟨g1, g2, g3⟩ := div_corr hY ha hb hu hc hq hq2 hr hr0
    have key : ∀ t : Bool, (t = true ↔ (q ≥ 4294967296 ∨ q * b > 4294967296 * r + c)) → Evt (fun k => bits_Div64.j1 k Y s a b u c c0 q r t) res := by
      intro t ht
      refine Evt.succ ?_
      simp only [bits_Div64.j1]
      by_cases h : t = true
      · have h' := ht.1 h
        have hq1 := g1 h'
        refine Evt.ite_pos h ?_
        rw [wu64_of (x := r + a) (by omega) (by omega), wu64_of (x := q - 1) (by omega) (by omega)]
        by_cases h2 : r + a ≥ 4294967296
        · refine Evt.ite_pos h2 ?_
          rw [← g3 h' h2]
          exact fin
        · refine Evt.ite_neg h2 (ih (q - 1) (r + a) hq1 (by omega) ?_ (by omega) (by omega))
          rw [hr]; grind
      · refine Evt.ite_neg h ?_
        rw [← g2 (fun h' => h (ht.2 h'))]
        exact fin
    refine Evt.succ ?_
    simp only [bits_Div64.l0]
    by_cases h : q ≥ 4294967296
    · exact Evt.ite_pos h (key true ⟨fun _ => Or.inl h, fun _ => rfl⟩)
    · refine Evt.ite_neg h (key _ ?_)
      have hm := mul_u64 (x := q) (y := b) ⟨by omega, by omega⟩ hb
      rw [wu64_of hm.1 hm.2, wu64_of (x := 4294967296 * r) (by omega) (by omega), wu64_of (x := 4294967296 * r + c) (by omega) (by omega), decide_eq_true_eq]
      exact ⟨fun h => Or.inr h, fun h' => by rcases h' with h' | h'; exact absurd h' h; exact h'⟩
theorem div_left {Y u c : Int} (hY : 0 < Y ∧ Y < 18446744073709551616) (hu : 0 ≤ u ∧ u < Y) (hc : 0 ≤ c ∧ c < 4294967296) :
    IntKind.u64.wrap ((IntKind.u64.wrap ((IntKind.u64.wrap (u * 4294967296)) + c)) - (IntKind.u64.wrap ((u * 4294967296 + c) / Y * Y))) = (u * 4294967296 + c) % Y := by
  have h1 : (u * 4294967296 + c) % Y + (u * 4294967296 + c) / Y * Y = u * 4294967296 + c := by rw [Int.mul_comm (_ / Y)]; exact Int.emod_add_mul_ediv _ _
  have h2 := Int.emod_nonneg (u * 4294967296 + c) (show Y ≠ 0 by omega)
  have h3 := Int.emod_lt_of_pos (u * 4294967296 + c) hY.1
  generalize (u * 4294967296 + c) % Y = m at *
  generalize (u * 4294967296 + c) / Y * Y = p at *
  simp only [wu64]
  omega
theorem div_first {Y a b u : Int} (c : Int) (hY : Y = a * 4294967296 + b) (ha : 2147483648 ≤ a ∧ a < 4294967296) (hb : 0 ≤ b ∧ b < 4294967296) (hu : 0 ≤ u ∧ u < Y) (hc : 0 ≤ c ∧ c < 4294967296) :
    IntKind.u64.wrap (Int.tdiv u a) = u / a ∧ IntKind.u64.wrap (u - IntKind.u64.wrap (u / a * a)) = u - u / a * a ∧ (u * 4294967296 + c) / Y ≤ u / a ∧ u / a ≤ 4294967297 ∧ 0 ≤ u - u / a * a ∧ u - u / a * a < 4294967296 := by
  have h1 : u % a + u / a * a = u := by rw [Int.mul_comm (u / a)]; exact Int.emod_add_mul_ediv _ _
  have h2 := Int.emod_nonneg u (show a ≠ 0 by omega)
  have h3 := Int.emod_lt_of_pos u (show 0 < a by omega)
  have h4 := Int.ediv_nonneg hu.1 (show 0 ≤ a by omega)
  have h5 : u / a < 4294967298 := by
    apply Int.ediv_lt_of_lt_mul (by omega)
    omega
  have h6 : (u * 4294967296 + c) / Y ≤ u / a := by
    have hY0 : 0 < Y := by omega
    have : (u * 4294967296 + c) / Y < u / a + 1 := by
      apply Int.ediv_lt_of_lt_mul hY0
      have e : (u / a + 1) * Y = (u / a * a + a) * 4294967296 + (u / a) * b + b := by rw [hY]; grind
      have h7 := Int.mul_nonneg h4 hb.1
      rw [e]
      omega
    omega
  rw [Int.tdiv_eq_ediv_of_nonneg hu.1, wu64_of h4 (by omega)]
  have h8 := Int.mul_nonneg h4 (show 0 ≤ a by omega)
  refine ⟨rfl, ?_, h6, by omega, by omega, by omega⟩
  rw [wu64_of (x := u / a * a) (by omega) (by omega), wu64_of (by omega) (by omega)]
theorem div_l1 {Y a b u c q1 : Int} (s : Nat) (hs : s < 64) (hY : Y = a * 4294967296 + b) (ha : 2147483648 ≤ a ∧ a < 4294967296) (hb : 0 ≤ b ∧ b < 4294967296) (hu : 0 ≤ u ∧ u < Y) (hc : 0 ≤ c ∧ c < 4294967296)
    (hq1 : 0 ≤ q1 ∧ q1 < 4294967296) (n : Nat) : ∀ q r : Int, (u * 4294967296 + c) / Y ≤ q → q ≤ 4294967297 → r = u - q * a → 0 ≤ r ∧ r < 4294967296 → q - (u * 4294967296 + c) / Y ≤ n →
    Evt (fun k => bits_Div64.l1 k Y (s : Int) a b c q1 r u q) (q1 * 4294967296 + (u * 4294967296 + c) / Y, (u * 4294967296 + c) % Y / 2 ^ s) := by
  have hQ0 : 0 ≤ (u * 4294967296 + c) / Y := Int.ediv_nonneg (by omega) (by omega)
  have hQ1 : (u * 4294967296 + c) / Y < 4294967296 := by
    apply Int.ediv_lt_of_lt_mul (by omega)
    omega
  have hl := div_left (Y := Y) (u := u) (c := c) ⟨by omega, by omega⟩ hu hc
  induction n with
  | zero =>
    intro q r hq hq2 hr hr0 hn
    obtain ⟨g1, g2, g3⟩ := div_corr hY ha hb hu hc hq hq2 hr hr0
    have hno : ¬ (q ≥ 4294967296 ∨ q * b > 4294967296 * r + c) := fun h => by have := g1 h; omega
    refine Evt.succ ?_
    simp only [bits_Div64.l1]
    refine Evt.ite_neg (fun h => hno (Or.inl h)) ?_
    have hm := mul_u64 (x := q) (y := b) ⟨by omega, by omega⟩ hb
    rw [wu64_of hm.1 hm.2, wu64_of (x := 4294967296 * r) (by omega) (by omega), wu64_of (x := 4294967296 * r + c) (by omega) (by omega)]
    refine Evt.succ ?_
    simp only [bits_Div64.j4]
    refine Evt.ite_neg (by simp only [decide_eq_true_eq]; exact fun h => hno (Or.inr h)) (Evt.ite_pos (by omega) ?_)
    rw [← g2 hno, hl, shr_u64 _ _ (by omega), wu64_of (x := q1 * 4294967296) (by omega) (by omega), wu64_of (by omega) (by omega)]
    exact Evt.pure _
  | succ n ih =>
    intro q r hq hq2 hr hr0 hn
    obtain ⟨g1, g2, g3⟩ := div_corr hY ha hb hu hc hq hq2 hr hr0
    have key : ∀ t : Bool, (t = true ↔ (q ≥ 4294967296 ∨ q * b > 4294967296 * r + c)) → Evt (fun k => bits_Div64.j4 k Y (s : Int) a b c q1 r u q t) (q1 * 4294967296 + (u * 4294967296 + c) / Y, (u * 4294967296 + c) % Y / 2 ^ s) := by
      intro t ht
      refine Evt.succ ?_
      simp only [bits_Div64.j4]
      by_cases h : t = true
      · have h' := ht.1 h
        have hq1 := g1 h'
        refine Evt.ite_pos h ?_
        rw [wu64_of (x := r + a) (by omega) (by omega), wu64_of (x := q - 1) (by omega) (by omega)]
        by_cases h2 : r + a ≥ 4294967296
        · refine Evt.ite_pos h2 (Evt.ite_pos (by omega) ?_)
          rw [← g3 h' h2, hl, shr_u64 _ _ (by omega), wu64_of (x := q1 * 4294967296) (by omega) (by omega), wu64_of (by omega) (by omega)]
          exact Evt.pure _
        · refine Evt.ite_neg h2 (ih (q - 1) (r + a) hq1 (by omega) ?_ (by omega) (by omega))
          rw [hr]; grind
      · refine Evt.ite_neg h (Evt.ite_pos (by omega) ?_)
        rw [← g2 (fun h' => h (ht.2 h')), hl, shr_u64 _ _ (by omega), wu64_of (x := q1 * 4294967296) (by omega) (by omega), wu64_of (by omega) (by omega)]
        exact Evt.pure _
    refine Evt.succ ?_
    simp only [bits_Div64.l1]
    by_cases h : q ≥ 4294967296
    · exact Evt.ite_pos h (key true ⟨fun _ => Or.inl h, fun _ => rfl⟩)
    · refine Evt.ite_neg h (key _ ?_)
      have hm := mul_u64 (x := q) (y := b) ⟨by omega, by omega⟩ hb
      rw [wu64_of hm.1 hm.2, wu64_of (x := 4294967296 * r) (by omega) (by omega), wu64_of (x := 4294967296 * r + c) (by omega) (by omega), decide_eq_true_eq]
      exact ⟨fun h => Or.inr h, fun h' => by rcases h' with h' | h'; exact absurd h' h; exact h'⟩
theorem mask32 {x : Int} (h0 : 0 ≤ x) (h1 : x < 18446744073709551616) : Go.bits .and .u64 x 4294967295 = x % 4294967296 := by
  have h := bits_mask .u64 64 (by decide) wraps_u64 32 (by decide) x h0 (by omega)
  rw [show (2 : Int) ^ 32 = 4294967296 from by decide] at h
  exact h
theorem bits_Div64_ev {hi lo y : Int} (h1 : 0 ≤ hi ∧ hi < y) (h2 : 0 ≤ lo ∧ lo < 18446744073709551616) (h3 : y < 18446744073709551616) :
    Evt (fun k => bits_Div64.f k hi lo y) ((hi * 18446744073709551616 + lo) / y, (hi * 18446744073709551616 + lo) % y) := by
  unfold bits_Div64.f
  refine Evt.ite_neg (by omega) (Evt.ite_neg (by omega) ?_)
  by_cases h0 : hi = 0
  · subst h0
    have h4 := Int.ediv_nonneg h2.1 (show 0 ≤ y by omega)
    have h5 := Int.ediv_le_self y h2.1
    refine Evt.ite_pos rfl ?_
    rw [Int.zero_mul, Int.zero_add, Int.tdiv_eq_ediv_of_nonneg h2.1, Int.tmod_eq_emod_of_nonneg h2.1, wu64_of h4 (by omega)]
    exact Evt.pure _
  · refine Evt.ite_neg h0 ?_
    have hbl := bl_le (x := y.toNat) (m := 64) (by omega)
    have hbp := bl_pos (n := y.toNat) (by omega)
    have hb1 := bl_lt y.toNat
    have hb2 := bl_ge (n := y.toNat) (by omega)
    obtain ⟨s, hs⟩ : ∃ s, s = 64 - bl y.toNat := ⟨_, rfl⟩
    have hs64 : s < 64 := by omega
    refine Evt.bind (Evt.bind (h := fun t _ => some (wrap64 (64 - t))) (bits_Len64_ev (x := y) (by omega) h3) (Evt.pure _)) ?_
    rw [show wrap64 (64 - ((bl y.toNat : Nat) : Int)) = (s : Int) from by rw [w64 (by omega) (by omega)]; omega]
    rw [wu64_of (x := (s : Int)) (by omega) (by omega), wu64_of (x := 64 - (s : Int)) (by omega) (by omega), show 64 - (s : Int) = ((64 - s : Nat) : Int) from by omega]
    rw [shl_u64 y s (by omega), shl_u64 hi s (by omega), shl_u64 lo s (by omega), shr_u64 lo (64 - s) (by omega)]
    have hp := pow2_pos s
    have hY1 : y * 2 ^ s < 18446744073709551616 := by
      have h4 : y.toNat * 2 ^ s < 2 ^ bl y.toNat * 2 ^ s := Nat.mul_lt_mul_of_pos_right hb1 (Nat.pow_pos (by decide))
      rw [← Nat.pow_add, show bl y.toNat + s = 64 from by omega] at h4
      have h5 : ((y.toNat * 2 ^ s : Nat) : Int) = y * 2 ^ s := by rw [Int.natCast_mul, Int.toNat_of_nonneg (by omega)]; simp
      omega
    have hY2 : 9223372036854775808 ≤ y * 2 ^ s := by
      have h4 : 2 ^ (bl y.toNat - 1) * 2 ^ s ≤ y.toNat * 2 ^ s := Nat.mul_le_mul_right _ hb2
      rw [← Nat.pow_add, show bl y.toNat - 1 + s = 63 from by omega] at h4
      have h5 : ((y.toNat * 2 ^ s : Nat) : Int) = y * 2 ^ s := by rw [Int.natCast_mul, Int.toNat_of_nonneg (by omega)]; simp
      omega
    have hh0 : 0 ≤ hi * 2 ^ s := Int.mul_nonneg h1.1 (by omega)
    have hh1 : hi * 2 ^ s + 2 ^ s ≤ y * 2 ^ s := by
      have := Int.mul_le_mul_of_nonneg_right (show hi + 1 ≤ y by omega) (show 0 ≤ (2 : Int) ^ s by omega)
      rw [Int.add_mul, Int.one_mul] at this
      exact this
    obtain ⟨f1, f2, f3, f4⟩ := shl_facts h2 (s := s) (by omega)
    have f5 := Int.emod_nonneg (lo * 2 ^ s) (show (18446744073709551616 : Int) ≠ 0 by omega)
    have f6 := Int.emod_lt_of_pos (lo * 2 ^ s) (show (0 : Int) < 18446744073709551616 by omega)
    rw [Int.emod_eq_of_lt (show 0 ≤ y * 2 ^ s by omega) hY1, Int.emod_eq_of_lt hh0 (by omega)]
    rw [or_u64 s (by omega) hh0 (Int.mul_emod_left _ _) (by omega) f3 f4]
    rw [mask32 (by omega) hY1, mask32 f5 f6]
    have hres : ((hi * 18446744073709551616 + lo) * 2 ^ s) / (y * 2 ^ s) = (hi * 18446744073709551616 + lo) / y := Int.mul_ediv_mul_of_pos_left _ _ hp
    have hrem : ((hi * 18446744073709551616 + lo) * 2 ^ s) % (y * 2 ^ s) = (hi * 18446744073709551616 + lo) % y * 2 ^ s := by
      rw [Int.mul_comm _ (2 ^ s), Int.mul_comm y, Int.mul_emod_mul_of_pos _ _ hp, Int.mul_comm]
    have hV : (hi * 18446744073709551616 + lo) * 2 ^ s = (hi * 2 ^ s + lo / 2 ^ (64 - s)) * 18446744073709551616 + (lo * 2 ^ s) % 18446744073709551616 := by
      have e : (hi * 18446744073709551616 + lo) * 2 ^ s = hi * 2 ^ s * 18446744073709551616 + lo * 2 ^ s := by grind
      rw [e]
      omega
    have hu : 0 ≤ hi * 2 ^ s + lo / 2 ^ (64 - s) ∧ hi * 2 ^ s + lo / 2 ^ (64 - s) < y * 2 ^ s := by omega
    generalize (hi * 18446744073709551616 + lo) / y = RQ at *
    generalize (hi * 18446744073709551616 + lo) % y = RM at *
    generalize hi * 2 ^ s + lo / 2 ^ (64 - s) = u at *
    generalize (lo * 2 ^ s) % 18446744073709551616 = v at *
    generalize y * 2 ^ s = Y at *
    rw [hV] at hres hrem
    have ha : 2147483648 ≤ Y / 4294967296 ∧ Y / 4294967296 < 4294967296 := by omega
    have hb : 0 ≤ Y % 4294967296 ∧ Y % 4294967296 < 4294967296 := by omega
    have hYY : Y = Y / 4294967296 * 4294967296 + Y % 4294967296 := by omega
    have hc : 0 ≤ v / 4294967296 ∧ v / 4294967296 < 4294967296 := by omega
    have hc0 : 0 ≤ v % 4294967296 ∧ v % 4294967296 < 4294967296 := by omega
    have hvv : v = v / 4294967296 * 4294967296 + v % 4294967296 := by omega
    generalize Y / 4294967296 = a at *
    generalize Y % 4294967296 = b at *
    generalize v / 4294967296 = c at *
    generalize v % 4294967296 = c0 at *
    refine Evt.ite_pos (by omega) (Evt.ite_pos (by omega) (Evt.ite_neg (by omega) ?_))
    obtain ⟨g1, g2, g3, g4, g5, g6⟩ := div_first c hYY ha hb hu hc
    rw [g1, g2]
    have hY0 : 0 < Y := by omega
    have m1 := Int.emod_nonneg (u * 4294967296 + c) (show Y ≠ 0 by omega)
    have m2 := Int.emod_lt_of_pos (u * 4294967296 + c) hY0
    have m3 := Int.emod_add_mul_ediv (u * 4294967296 + c) Y
    have q0 : 0 ≤ (u * 4294967296 + c) / Y := Int.ediv_nonneg (by omega) (by omega)
    have q1 : (u * 4294967296 + c) / Y < 4294967296 := by
      apply Int.ediv_lt_of_lt_mul hY0
      omega
    have hl := div_left (Y := Y) (u := u) (c := c) ⟨hY0, hY1⟩ hu hc
    refine div_l0 hYY ha hb hu hc ?_ 4294967300 (u / a) (u - u / a * a) g3 g4 rfl ⟨g5, g6⟩ (by omega)
    refine Evt.succ ?_
    simp only [bits_Div64.j2]
    refine Evt.ite_neg (by omega) ?_
    rw [hl]
    generalize (u * 4294967296 + c) % Y = u2 at *
    generalize (u * 4294967296 + c) / Y = Q1 at *
    obtain ⟨k1, k2, k3, k4, k5, k6⟩ := div_first c0 hYY ha hb ⟨m1, m2⟩ hc0
    rw [k1, k2]
    have n1 := Int.emod_nonneg (u2 * 4294967296 + c0) (show Y ≠ 0 by omega)
    have n2 := Int.emod_lt_of_pos (u2 * 4294967296 + c0) hY0
    have n3 := Int.emod_add_mul_ediv (u2 * 4294967296 + c0) Y
    have r0 : 0 ≤ (u2 * 4294967296 + c0) / Y := Int.ediv_nonneg (by omega) (by omega)
    have hend := div_l1 (q1 := Q1) s hs64 hYY ha hb ⟨m1, m2⟩ hc0 ⟨q0, q1⟩ 4294967300 (u2 / a) (u2 - u2 / a * a) k3 k4 rfl ⟨k5, k6⟩ (by omega)
    refine hend.congr (fun k => rfl) ?_
    generalize (u2 * 4294967296 + c0) % Y = M at *
    generalize (u2 * 4294967296 + c0) / Y = Q0 at *
    have ef : u * 18446744073709551616 + v = M + Y * (Q1 * 4294967296 + Q0) := by
      have e : Y * (Q1 * 4294967296 + Q0) = Y * Q1 * 4294967296 + Y * Q0 := by grind
      rw [e]
      omega
    rw [ef, Int.add_mul_ediv_left _ _ (show Y ≠ 0 by omega), Int.ediv_eq_zero_of_lt n1 n2, Int.zero_add] at hres
    rw [ef, Int.add_mul_emod_self_left, Int.emod_eq_of_lt n1 n2] at hrem
    rw [hres, hrem, Int.mul_ediv_cancel _ (by omega)]
theorem mask32m {x : Int} (h0 : 0 ≤ x) (h1 : x < 18446744073709551616) : Go.bits .and .u64 x 4294967295 = x % 4294967296 := by
  have h := bits_mask .u64 64 (by decide) wraps_u64 32 (by decide) x h0 (by omega)
  rw [show (2 : Int) ^ 32 = 4294967296 from by decide] at h
  exact h
theorem half_mul {x y : Int} (hx : 0 ≤ x ∧ x < 4294967296) (hy : 0 ≤ y ∧ y < 4294967296) : 0 ≤ x * y ∧ x * y ≤ 18446744065119617025 := by
  refine ⟨Int.mul_nonneg hx.1 hy.1, ?_⟩
  have : x * y ≤ 4294967295 * 4294967295 := Int.mul_le_mul (by omega) (by omega) hy.1 (by omega)
  omega
theorem bits_Mul64_eq {x y : Int} (hx : 0 ≤ x ∧ x < 18446744073709551616) (hy : 0 ≤ y ∧ y < 18446744073709551616) :
    ∃ hi lo : Int, bits_Mul64.f x y = some (hi, lo) ∧ hi * 18446744073709551616 + lo = x * y ∧ (0 ≤ hi ∧ hi < 18446744073709551616) ∧ (0 ≤ lo ∧ lo < 18446744073709551616) := by
  unfold bits_Mul64.f
  have ex : x = x / 4294967296 * 4294967296 + x % 4294967296 := by omega
  have ey : y = y / 4294967296 * 4294967296 + y % 4294967296 := by omega
  have xl : 0 ≤ x % 4294967296 ∧ x % 4294967296 < 4294967296 := by omega
  have yl : 0 ≤ y % 4294967296 ∧ y % 4294967296 < 4294967296 := by omega
  have xh : 0 ≤ x / 4294967296 ∧ x / 4294967296 < 4294967296 := by omega
  have yh : 0 ≤ y / 4294967296 ∧ y / 4294967296 < 4294967296 := by omega
  rw [mask32m hx.1 hx.2, mask32m hy.1 hy.2]
  have p1 := half_mul xh yh
  have p2 := half_mul xh yl
  have p3 := half_mul xl yh
  have p4 := half_mul xl yl
  have e : x * y = (x / 4294967296 * (y / 4294967296)) * 18446744073709551616 + (x / 4294967296 * (y % 4294967296) + x % 4294967296 * (y / 4294967296)) * 4294967296 + x % 4294967296 * (y % 4294967296) := by
    generalize x / 4294967296 = a at *
    generalize x % 4294967296 = b at *
    generalize y / 4294967296 = c at *
    generalize y % 4294967296 = d at *
    subst ex ey
    grind
  rw [e]
  generalize x / 4294967296 * (y / 4294967296) = A at *
  generalize x / 4294967296 * (y % 4294967296) = B at *
  generalize x % 4294967296 * (y / 4294967296) = C at *
  generalize x % 4294967296 * (y % 4294967296) = D at *
  clear e ex ey xl yl xh yh hx hy
  rw [wu64_of (x := A) p1.1 (by omega), wu64_of (x := B) p2.1 (by omega), wu64_of (x := C) p3.1 (by omega), wu64_of (x := D) p4.1 (by omega)]
  rw [wu64_of (x := B + D / 4294967296) (by omega) (by omega)]
  rw [mask32m (x := B + D / 4294967296) (by omega) (by omega)]
  rw [wu64_of (x := (B + D / 4294967296) % 4294967296 + C) (by omega) (by omega)]
  rw [wu64_of (x := A + (B + D / 4294967296) / 4294967296) (by omega) (by omega)]
  rw [wu64_of (x := A + (B + D / 4294967296) / 4294967296 + _) (by omega) (by omega)]
  exact ⟨_, _, rfl, by rw [wu64]; omega, by omega, by rw [wu64]; omega⟩
theorem guess_l0 {r2 r1 r0 d1 d0 : Int} (h0 : 0 ≤ r0 ∧ r0 < 18446744073709551616) (k1 : 0 < d1 ∧ d1 < 18446744073709551616) (k0 : 0 ≤ d0 ∧ d0 < 18446744073709551616) (n : Nat) :
    ∀ q rest : Int, 0 ≤ q ∧ q < 18446744073709551616 → 0 ≤ rest ∧ rest < 18446744073709551616 → q * d1 + rest = r2 * 18446744073709551616 + r1 → q ≤ n → (∀ h, h < 18446744073709551616 → h * (d1 * 18446744073709551616 + d0) ≤ (r2 * 18446744073709551616 + r1) * 18446744073709551616 + r0 → h ≤ q) →
    ∃ g, Evt (fun k => nat_guess.l0 k r0 d1 d0 q rest) g ∧ (0 ≤ g ∧ g < 18446744073709551616) ∧ ∀ h, h < 18446744073709551616 → h * (d1 * 18446744073709551616 + d0) ≤ (r2 * 18446744073709551616 + r1) * 18446744073709551616 + r0 → h ≤ g := by
  induction n with
  | zero =>
    intro q rest hq hr he hn hall
    obtain rfl : q = 0 := by omega
    obtain ⟨hi, lo, e, e2, e3, e4⟩ := bits_Mul64_eq (x := 0) (y := d0) (by omega) k0
    refine ⟨0, ?_, by omega, hall⟩
    refine Evt.succ ?_
    simp only [nat_guess.l0]
    refine Evt.bind (Evt.of (fun _ => e)) ?_
    refine Evt.cond' (fun _ => ?_) (fun c => ?_)
    · refine Evt.succ ?_
      simp only [nat_guess.j1]
      exact Evt.ite_pos (by simp) (Evt.pure _)
    · rw [Int.zero_mul] at e2
      refine Evt.ite_pos (by omega) ?_
      refine Evt.succ ?_
      simp only [nat_guess.j1]
      exact Evt.ite_pos (by simp; omega) (Evt.pure _)
  | succ n ih =>
    intro q rest hq hr he hn hall
    obtain ⟨hi, lo, e, e2, e3, e4⟩ := bits_Mul64_eq (x := q) (y := d0) hq k0
    by_cases hp : hi < rest ∨ (hi = rest ∧ lo ≤ r0)
    · refine ⟨q, ?_, hq, hall⟩
      refine Evt.succ ?_
      simp only [nat_guess.l0]
      refine Evt.bind (Evt.of (fun _ => e)) ?_
      refine Evt.cond' (fun _ => ?_) (fun c => ?_)
      · refine Evt.succ ?_
        simp only [nat_guess.j1]
        exact Evt.ite_pos (by simp) (Evt.pure _)
      · refine Evt.ite_pos (by omega) ?_
        refine Evt.succ ?_
        simp only [nat_guess.j1]
        exact Evt.ite_pos (by simp; omega) (Evt.pure _)
    · have hno : ∀ h, h < 18446744073709551616 → h * (d1 * 18446744073709551616 + d0) ≤ (r2 * 18446744073709551616 + r1) * 18446744073709551616 + r0 → h ≤ q - 1 := by
        intro h h1 h2
        have h3 := hall h h1 h2
        by_cases h4 : h = q
        · subst h4
          have e5 : h * (d1 * 18446744073709551616 + d0) = h * d1 * 18446744073709551616 + h * d0 := by grind
          rw [e5, ← e2] at h2
          omega
        · omega
      have hq0 : q ≠ 0 := by
        intro h
        subst h
        rw [Int.zero_mul] at e2
        omega
      have step : ∀ {g : Int}, Evt (fun k => if IntKind.u64.wrap (rest + d1) < rest then (some (IntKind.u64.wrap (q - 1))) else (nat_guess.l0 k r0 d1 d0 (IntKind.u64.wrap (q - 1)) (IntKind.u64.wrap (rest + d1)))) g → Evt (fun k => nat_guess.l0 k r0 d1 d0 q rest) g := by
        intro g hg
        refine Evt.succ ?_
        simp only [nat_guess.l0]
        refine Evt.bind (Evt.of (fun _ => e)) ?_
        refine Evt.ite_neg (by omega) ?_
        refine Evt.cond' (fun _ => ?_) (fun c => ?_)
        · refine Evt.succ ?_
          simp only [nat_guess.j1]
          exact Evt.ite_neg (by simp; omega) hg
        · refine Evt.succ ?_
          simp only [nat_guess.j1]
          exact Evt.ite_neg (by simp) hg
      rw [wu64_of (x := q - 1) (by omega) (by omega), wu64] at step
      by_cases hov : rest + d1 < 18446744073709551616
      · obtain ⟨g, g1, g2, g3⟩ := ih (q - 1) (rest + d1) (by omega) (by omega) (by rw [Int.sub_mul]; omega) (by omega) hno
        refine ⟨g, step ?_, g2, g3⟩
        rw [Int.emod_eq_of_lt (by omega) hov]
        exact Evt.ite_neg (by omega) g1
      · refine ⟨q - 1, step ?_, by omega, hno⟩
        exact Evt.ite_pos (by omega) (Evt.pure _)
theorem nat_guess_ev {r2 r1 r0 d1 d0 : Int} (h2 : 0 ≤ r2) (h1 : 0 ≤ r1 ∧ r1 < 18446744073709551616) (h0 : 0 ≤ r0 ∧ r0 < 18446744073709551616) (k1 : 0 < d1 ∧ d1 < 18446744073709551616) (k0 : 0 ≤ d0 ∧ d0 < 18446744073709551616) :
    ∃ g, Evt (fun k => nat_guess.f k r2 r1 r0 d1 d0) g ∧ (0 ≤ g ∧ g < 18446744073709551616) ∧ ∀ h, h < 18446744073709551616 → h * (d1 * 18446744073709551616 + d0) ≤ (r2 * 18446744073709551616 + r1) * 18446744073709551616 + r0 → h ≤ g := by
  by_cases hc : r2 ≥ d1
  · refine ⟨18446744073709551615, ?_, by omega, fun h h3 _ => by omega⟩
    unfold nat_guess.f
    exact Evt.ite_pos hc (Evt.pure _)
  · have hq0 : 0 ≤ (r2 * 18446744073709551616 + r1) / d1 := Int.ediv_nonneg (by omega) (by omega)
    have hq1 : (r2 * 18446744073709551616 + r1) / d1 < 18446744073709551616 := by
      apply Int.ediv_lt_of_lt_mul k1.1
      omega
    have hm0 := Int.emod_nonneg (r2 * 18446744073709551616 + r1) (show d1 ≠ 0 by omega)
    have hm1 := Int.emod_lt_of_pos (r2 * 18446744073709551616 + r1) k1.1
    have hm : (r2 * 18446744073709551616 + r1) / d1 * d1 + (r2 * 18446744073709551616 + r1) % d1 = r2 * 18446744073709551616 + r1 := by rw [Int.mul_comm]; exact Int.mul_ediv_add_emod _ _
    obtain ⟨g, g1, g2, g3⟩ := guess_l0 (r2 := r2) (r1 := r1) h0 k1 k0 ((r2 * 18446744073709551616 + r1) / d1).toNat ((r2 * 18446744073709551616 + r1) / d1) ((r2 * 18446744073709551616 + r1) % d1) ⟨hq0, hq1⟩ ⟨hm0, by omega⟩ hm (by omega) (by
      intro h h3 h4
      rw [Int.le_ediv_iff_mul_le k1.1]
      have e : h * (d1 * 18446744073709551616 + d0) = h * d1 * 18446744073709551616 + h * d0 := by grind
      rw [e] at h4
      by_cases h5 : 0 ≤ h
      · have : 0 ≤ h * d0 := Int.mul_nonneg h5 k0.1
        omega
      · have : h * d1 ≤ 0 := Int.mul_nonpos_of_nonpos_of_nonneg (by omega) (by omega)
        omega)
    refine ⟨g, ?_, g2, g3⟩
    unfold nat_guess.f
    refine Evt.ite_neg hc ?_
    exact Evt.bind (bits_Div64_ev (by omega) h1 k1.2) g1
theorem add0_of {x y : Int} (hx : 0 ≤ x ∧ x < 18446744073709551616) (hy : 0 ≤ y ∧ y < 18446744073709551616) :
    add64_s x y 0 + 18446744073709551616 * add64_c x y 0 = x + y ∧ (0 ≤ add64_s x y 0 ∧ add64_s x y 0 < 18446744073709551616) ∧ (add64_c x y 0 = 0 ∨ add64_c x y 0 = 1) := by
  unfold add64_s add64_c
  omega
theorem getD_set_ne {l : List Int} {i j : Nat} {v : Int} (h : i ≠ j) : (l.set i v).getD j 0 = l.getD j 0 := by
  rw [List.getD_eq_getElem?_getD, List.getElem?_set_ne h, ← List.getD_eq_getElem?_getD]
theorem school_key {W p t B x y c o s Q : Int} (h : s + B * Q = x * y + o + c) : p + W * (s - o) + W * B * (x * t + Q) = p + W * (x * (y + B * t) + c) := by
  have e9 : W * (x * (y + B * t) + c) = W * (x * y + o + c) - W * o + W * (B * (x * t)) := by grind
  rw [e9, ← h]
  grind
theorem school_digit {x y hi lo o c s1 q1 s2 q2 : Int} (hx : 0 ≤ x ∧ x < 18446744073709551616) (hy : 0 ≤ y ∧ y < 18446744073709551616) (h3 : 0 ≤ hi ∧ hi < 18446744073709551616) (e2 : hi * 18446744073709551616 + lo = x * y) (ho : 0 ≤ o ∧ o < 18446744073709551616) (hc : 0 ≤ c ∧ c < 18446744073709551616)
    (a1 : s1 + 18446744073709551616 * q1 = lo + o) (a3 : q1 = 0 ∨ q1 = 1) (b1 : s2 + 18446744073709551616 * q2 = s1 + c) (b2 : 0 ≤ s2) (b3 : q2 = 0 ∨ q2 = 1) :
    0 ≤ hi + q1 ∧ hi + q1 < 18446744073709551616 ∧ 0 ≤ hi + q1 + q2 ∧ hi + q1 + q2 < 18446744073709551616 ∧ s2 + 18446744073709551616 * (hi + q1 + q2) = x * y + o + c := by
  have hxy : x * y ≤ 18446744073709551615 * 18446744073709551615 := Int.mul_le_mul (by omega) (by omega) hy.1 (by omega)
  have h0 : (18446744073709551615 : Int) * 18446744073709551615 = 340282366920938463426481119284349108225 := by decide
  rw [h0] at hxy
  generalize x * y = z at *
  omega
theorem school_l1 (l0 l1 : List Int) (i : Nat) (x m : Int) (hx : 0 ≤ x ∧ x < 18446744073709551616) (d1 : Dig (b64 : Int) l1) {res : List Int} : ∀ (S P out : List Int) (c : Int), l1 = P ++ S → out.length ≤ 1000000 → i + l1.length < out.length → Dig (b64 : Int) out → 0 ≤ c ∧ c < 18446744073709551616 → out.getD (i + l1.length) 0 = 0 →
    (∀ out' : List Int, out'.length = out.length → Dig (b64 : Int) out' → (∀ j, i + l1.length < j → out'.getD j 0 = out.getD j 0) → val (b64 : Int) out' = val (b64 : Int) out + (b64 : Int) ^ (i + P.length) * (x * val (b64 : Int) S + c) →
      Evt (fun k => nat_school.l0 k l1 out' l0 m (wrap64 ((i : Int) + 1))) res) →
    Evt (fun k => nat_school.l1 k l1 out (i : Int) x c l0 m (i : Int) l1 (l1.length : Int) (P.length : Int)) res := by
  intro S
  induction S with
  | nil =>
    intro P out c hl hlen hfit dO hc h0 cont
    obtain rfl : l1 = P := by simpa using hl
    refine Evt.succ ?_
    simp only [nat_school.l1]
    rw [w64 (x := (i : Int) + (l1.length : Int)) (by omega) (by omega)]
    refine Evt.ite_neg (by omega) (Evt.ite_pos (by omega) (Evt.ite_pos (by omega) ?_))
    have e : ((i : Int) + (l1.length : Int)).toNat = i + l1.length := by omega
    rw [e]
    have hB : (b64 : Int) = 18446744073709551616 := rfl
    refine cont _ (by simp) (dO.set _ (by rw [hB]; exact hc)) (fun j hj => getD_set_ne (by omega)) ?_
    rw [val_set _ _ _ _ hfit, h0]
    simp [val]
  | cons y S ih =>
    intro P out c hl hlen hfit dO hc h0 cont
    have hB : (b64 : Int) = 18446744073709551616 := rfl
    have hll : l1.length = P.length + (S.length + 1) := by rw [hl]; simp
    have hy : 0 ≤ y ∧ y < 18446744073709551616 := by
      have := d1 y (by rw [hl]; simp)
      rwa [hB] at this
    refine Evt.succ ?_
    simp only [nat_school.l1]
    refine Evt.ite_pos (by omega) (Evt.ite_pos (by omega) (Evt.ite_pos (by omega) ?_))
    have er : rd l1 (P.length : Int) = y := by rw [rd_nat, hl]; simp
    rw [er]
    obtain ⟨hi, lo, e1, e2, h3, h4⟩ := bits_Mul64_eq hx hy
    refine Evt.bind (Evt.of fun _ => e1) ?_
    rw [w64 (x := (i : Int) + (P.length : Int)) (by omega) (by omega)]
    refine Evt.ite_pos (by omega) (Evt.ite_pos (by omega) (Evt.ite_pos (carry_of (Or.inl rfl)) ?_))
    rw [show (i : Int) + (P.length : Int) = ((i + P.length : Nat) : Int) from by omega, rd_nat, Int.toNat_natCast]
    have ho := dO.getD b64_pos (i + P.length)
    rw [hB] at ho
    generalize hO : out.getD (i + P.length) 0 = o at *
    obtain ⟨a1, a2, a3⟩ := add0_of h4 ho
    generalize add64_s lo o 0 = s1 at *
    generalize add64_c lo o 0 = q1 at *
    obtain ⟨b1, b2, b3⟩ := add0_of a2 hc
    generalize add64_s s1 c 0 = s2 at *
    generalize add64_c s1 c 0 = q2 at *
    obtain ⟨k0, hq1, k1, hq2, k2⟩ := school_digit hx hy h3 e2 ho hc a1 a3 b1 b2.1 b3
    rw [wu64_of (x := hi + q1) k0 hq1, wu64_of (x := hi + q1 + q2) k1 hq2, w64 (x := (P.length : Int) + 1) (by omega) (by omega)]
    have h := ih (P ++ [y]) (out.set (i + P.length) s2) (hi + q1 + q2) (by rw [hl]; simp) (by simpa using hlen) (by simpa using hfit) (dO.set _ (by rw [hB]; exact b2)) ⟨k1, hq2⟩ (by rw [getD_set_ne (by omega)]; exact h0) ?_
    · rw [show ((P ++ [y]).length : Int) = (P.length : Int) + 1 from by simp] at h
      exact h
    · intro out' hl' d' hj' hv
      refine cont out' (by rw [hl']; simp) d' (fun j hj => by rw [hj' j hj, getD_set_ne (by omega)]) ?_
      rw [hv, val_set _ _ _ _ (by omega), hO, List.length_append, List.length_singleton, ← Nat.add_assoc, Int.pow_succ]
      simp only [val]
      exact school_key (by rw [hB]; exact k2)
theorem school_l0 (l0 l1 : List Int) (h0 : l0.length ≤ 100000) (h1 : l1.length ≤ 100000) (d0 : Dig (b64 : Int) l0) (d1 : Dig (b64 : Int) l1) (n : Nat) : ∀ (i : Nat) (out : List Int), i + n = l0.length → out.length = l0.length + l1.length → Dig (b64 : Int) out → (∀ j, i + l1.length ≤ j → out.getD j 0 = 0) → val (b64 : Int) out = val (b64 : Int) (l0.take i) * val (b64 : Int) l1 →
    Evt (fun k => nat_school.l0 k l1 out l0 (l0.length : Int) (i : Int)) (limbs (num l0 * num l1)) := by
  induction n with
  | zero =>
    intro i out hi hl dO _ hv
    refine Evt.succ ?_
    simp only [nat_school.l0]
    refine Evt.ite_neg (by omega) ?_
    refine Evt.bind (nat_trim_ev out (by simp [maxLen]; omega)) ?_
    rw [strip_limbs dO]
    have e : num out = num l0 * num l1 := by
      have e1 := num_val dO
      rw [hv, List.take_of_length_le (by omega), ← num_val d0, ← num_val d1, ← Int.natCast_mul] at e1
      omega
    rw [e]
    exact Evt.pure _
  | succ n ih =>
    intro i out hi hl dO hz hv
    have hil : i < l0.length := by omega
    refine Evt.succ ?_
    simp only [nat_school.l0]
    refine Evt.ite_pos (by omega) (Evt.ite_pos (by omega) (Evt.ite_pos (by omega) ?_))
    rw [rd_nat]
    have hx := d0.getD b64_pos i
    have hx' : 0 ≤ l0.getD i 0 ∧ l0.getD i 0 < 18446744073709551616 := hx
    have hg : l0.getD i 0 = l0[i] := by simp [hil]
    refine school_l1 l0 l1 i (l0.getD i 0) (l0.length : Int) hx' d1 l1 [] out 0 rfl (by omega) (by omega) dO (by omega) (hz _ (Nat.le_refl _)) ?_
    intro out' hl' d' hj' hv'
    rw [w64 (by omega) (by omega)]
    refine ih (i + 1) out' (by omega) (by omega) d' (fun j hj => by rw [hj' j (by omega), hz j (by omega)]) ?_
    rw [hv', hv, val_take_step _ _ _ hil, ← hg]
    simp only [List.length_nil, Nat.add_zero, Int.add_zero]
    grind
theorem nat_school_ev (l0 l1 : List Int) (h0 : l0.length ≤ 100000) (h1 : l1.length ≤ 100000) (d0 : Dig (b64 : Int) l0) (d1 : Dig (b64 : Int) l1) : Evt (fun k => nat_school.f k l0 l1) (limbs (num l0 * num l1)) := by
  unfold nat_school.f
  rw [w64 (by omega) (by omega), show ((l0.length : Int) + (l1.length : Int)).toNat = l0.length + l1.length from by omega]
  refine Evt.ite_pos (by omega) (Evt.ite_pos (by omega) ?_)
  refine school_l0 l0 l1 h0 h1 d0 d1 l0.length 0 _ (by omega) (by simp) (Dig.replicate b64_pos _) (fun j _ => ?_) ?_
  · rw [List.getD_eq_getElem?_getD, List.getElem?_replicate]
    split <;> rfl
  · rw [val_replicate]
    simp [val]
theorem drop_set_self (l : List Int) (i : Nat) (x : Int) (h : i < l.length) : (l.set i x).drop i = x :: l.drop (i + 1) := by
  rw [List.drop_eq_getElem_cons (by simpa using h), List.drop_set, if_pos (Nat.lt_succ_self i)]
  simp
theorem nat_short_loop (a : List Int) (d : Int) (da : Dig (b64 : Int) a) (ha : a.length ≤ 100000) (h0 : 0 < d) (h1 : d < 18446744073709551616) (n : Nat) :
    ∀ (out : List Int) (rest : Int), n ≤ a.length → out.length = a.length → Dig (b64 : Int) out → 0 ≤ rest ∧ rest < d → val (b64 : Int) (out.drop n) * d + rest = val (b64 : Int) (a.drop n) →
    Evt (fun k => nat_short.l0 k a d out rest ((n : Int) - 1)) (limbs (num a / d.toNat), ((num a % d.toNat : Nat) : Int)) := by
  induction n with
  | zero =>
    intro out rest hn ho do_ hr hv
    refine Evt.succ ?_
    simp only [nat_short.l0]
    refine Evt.ite_neg (by omega) ?_
    refine Evt.bind (nat_trim_ev out (by simp [maxLen]; omega)) ?_
    rw [strip_limbs do_]
    rw [List.drop_zero, List.drop_zero] at hv
    have e1 := num_val do_
    have e2 := num_val da
    have e3 : num a = num out * d.toNat + rest.toNat := by
      have : (num a : Int) = ((num out * d.toNat + rest.toNat : Nat) : Int) := by
        rw [Int.natCast_add, Int.natCast_mul, e1, e2, Int.toNat_of_nonneg (by omega), Int.toNat_of_nonneg hr.1]
        exact hv.symm
      omega
    have e4 : num a / d.toNat = num out := by
      rw [e3, Nat.mul_comm, Nat.mul_add_div (by omega), Nat.div_eq_of_lt (by omega), Nat.add_zero]
    have e5 : num a % d.toNat = rest.toNat := by
      rw [e3, Nat.mul_comm, Nat.mul_add_mod, Nat.mod_eq_of_lt (by omega)]
    rw [e4, e5, Int.toNat_of_nonneg hr.1]
    exact Evt.pure _
  | succ n ih =>
    intro out rest hn ho do_ hr hv
    refine Evt.succ ?_
    simp only [nat_short.l0]
    rw [show ((n + 1 : Nat) : Int) - 1 = (n : Int) from by omega, rd_nat, w64 (by omega) (by omega)]
    have hx := da.getD b64_pos n
    have hg : a.getD n 0 = a[n] := by simp [show n < a.length by omega]
    simp only [b64] at hx
    have hq0 : 0 ≤ (rest * 18446744073709551616 + a.getD n 0) / d := Int.ediv_nonneg (by omega) (by omega)
    have hq1 : (rest * 18446744073709551616 + a.getD n 0) / d < 18446744073709551616 := by
      apply Int.ediv_lt_of_lt_mul h0
      omega
    have hm0 := Int.emod_nonneg (rest * 18446744073709551616 + a.getD n 0) (show d ≠ 0 by omega)
    have hm1 := Int.emod_lt_of_pos (rest * 18446744073709551616 + a.getD n 0) h0
    have hm : (rest * 18446744073709551616 + a.getD n 0) % d + (rest * 18446744073709551616 + a.getD n 0) / d * d = rest * 18446744073709551616 + a.getD n 0 := by rw [Int.mul_comm (_ / d)]; exact Int.emod_add_mul_ediv _ _
    refine Evt.ite_pos (by omega) (Evt.ite_pos (by omega) (Evt.ite_pos (by omega) ?_))
    refine Evt.bind (bits_Div64_ev hr hx h1) ?_
    refine Evt.ite_pos (by omega) ?_
    rw [Int.toNat_natCast]
    refine ih _ _ (by omega) (by simpa using ho) (do_.set n ⟨hq0, hq1⟩) ⟨hm0, hm1⟩ ?_
    rw [drop_set_self _ _ _ (by omega), List.drop_eq_getElem_cons (show n < a.length by omega), ← hg]
    simp only [val, b64] at hv ⊢
    generalize (rest * 18446744073709551616 + a.getD n 0) / d = Q at *
    generalize (rest * 18446744073709551616 + a.getD n 0) % d = M at *
    generalize a.getD n 0 = x at *
    rw [← hv]
    generalize val _ (out.drop (n + 1)) = V at *
    have e : (Q + ((18446744073709551616 : Nat) : Int) * V) * d = Q * d + 18446744073709551616 * (V * d) := by
      rw [Int.add_mul, Int.mul_assoc]; rfl
    rw [e, Int.mul_add]
    omega
theorem nat_short_ev (a : List Int) (d : Int) (da : Dig (b64 : Int) a) (ha : a.length ≤ 100000) (h0 : 0 < d) (h1 : d < 18446744073709551616) :
    Evt (fun k => nat_short.f k a d) (limbs (num a / d.toNat), ((num a % d.toNat : Nat) : Int)) := by
  unfold nat_short.f
  refine Evt.ite_pos (by omega) (Evt.ite_pos (by omega) ?_)
  rw [Int.toNat_natCast, w64 (by omega) (by omega)]
  refine nat_short_loop a d da ha h0 h1 a.length _ 0 (Nat.le_refl _) (by simp) (Dig.replicate b64_pos _) ⟨by omega, h0⟩ ?_
  rw [List.drop_of_length_le (by simp), List.drop_of_length_le (by simp)]
  simp [val]
end Go.Proofs.Ytgeanpnkllnipab.Z
end
section
namespace Go.Proofs.Ytgeanpnkllnipab.Z
open Go.RowKit Go.Proofs.YtgeanpnkllnipabW.PrintWords Go.Proofs.YtgeanpnkllnipabW.PrintMore
set_option linter.unusedSimpArgs false
set_option linter.unusedVariables false
def downL (s : Nat) : List Int → List Int
  | [] => []
  | x :: l => (x / 2 ^ s + (if s = 0 then 0 else (l.getD 0 0 * 2 ^ (64 - s)) % 18446744073709551616)) :: downL s l
theorem downL_facts (s : Nat) (hs : s < 64) (l : List Int) (d : Dig (b64 : Int) l) : Dig (b64 : Int) (downL s l) ∧ (downL s l).length = l.length ∧ val (b64 : Int) (downL s l) * 2 ^ s + l.getD 0 0 % 2 ^ s = val (b64 : Int) l := by
  have hB : (b64 : Int) = 18446744073709551616 := rfl
  have hps := pow2_pos s
  induction l with
  | nil => exact ⟨Dig.nil, rfl, by simp [downL, val]⟩
  | cons x l ih =>
    have d1 := Dig.cons.1 d
    obtain ⟨i1, i2, i3⟩ := ih d1.2
    have rx := d1.1
    have ry := d1.2.getD b64_pos 0
    rw [hB] at rx ry
    by_cases h0 : s = 0
    · subst h0
      simp only [downL, Int.pow_zero, Int.ediv_one, if_true, Int.add_zero] at i3 ⊢
      refine ⟨Dig.cons.2 ⟨by rw [hB]; exact rx, i1⟩, by simp [i2], ?_⟩
      simp only [val, List.getD_cons_zero, Int.emod_one, Int.add_zero, Int.mul_one] at i3 ⊢
      rw [i3]
    · have hp64 := pow64_split (s := s) (by omega)
      have hq := pow2_pos (64 - s)
      obtain ⟨f1, f2, f3, f4⟩ := shl_facts ry (s := 64 - s) (by omega)
      rw [show 64 - (64 - s) = s from by omega] at f1 f3 f4
      simp only [downL, if_neg h0]
      have e1 := Int.emod_add_mul_ediv x (2 ^ s)
      have e2 := Int.emod_nonneg x (show (2 : Int) ^ s ≠ 0 by omega)
      have e3 := Int.emod_lt_of_pos x hps
      have e4 := Int.emod_add_mul_ediv (l.getD 0 0) (2 ^ s)
      generalize hz : (l.getD 0 0 * 2 ^ (64 - s)) % 18446744073709551616 = z at *
      generalize hxd : x / 2 ^ s = xd at *
      generalize hyd : l.getD 0 0 / 2 ^ s = yd at *
      generalize l.getD 0 0 = y at *
      have hxd1 : xd < 2 ^ (64 - s) := by
        rw [← hxd]
        apply Int.ediv_lt_of_lt_mul hps
        rw [Int.mul_comm, hp64]
        exact rx.2
      have hxd0 : 0 ≤ xd := by rw [← hxd]; exact Int.ediv_nonneg rx.1 (by omega)
      obtain ⟨t, ht⟩ := Int.dvd_of_emod_eq_zero f2
      have hz0 : 0 ≤ z := by omega
      have hz1 : z < 18446744073709551616 := by omega
      refine ⟨Dig.cons.2 ⟨?_, i1⟩, by simp [i2], ?_⟩
      · rw [hB]
        refine ⟨by omega, ?_⟩
        have ht2 : t < 2 ^ s := by
          refine Int.not_le.1 (fun hle => ?_)
          have := Int.mul_le_mul_of_nonneg_left hle (Int.le_of_lt hq)
          rw [Int.mul_comm ((2 : Int) ^ (64 - s)) (2 ^ s), hp64] at this
          omega
        have h5 : 2 ^ (64 - s) * (t + 1) ≤ (2 : Int) ^ (64 - s) * 2 ^ s := Int.mul_le_mul_of_nonneg_left (by omega) (by omega)
        rw [Int.mul_comm ((2 : Int) ^ (64 - s)) (2 ^ s), hp64, Int.mul_add] at h5
        omega
      · simp only [val, List.getD_cons_zero]
        rw [hB] at i3 ⊢
        generalize val 18446744073709551616 (downL s l) = vd at *
        generalize val 18446744073709551616 l = vl at *
        generalize x % 2 ^ s = xm at *
        generalize y % 2 ^ s = ym at *
        have hP : (2 : Int) ^ (64 - s) * 2 ^ s = 18446744073709551616 := by rw [Int.mul_comm]; exact hp64
        generalize (2 : Int) ^ s = P at *
        generalize (2 : Int) ^ (64 - s) = Q at *
        have e5 : (xd + z + 18446744073709551616 * vd) * P + xm = P * xd + xm + (z * P + 18446744073709551616 * (vd * P)) := by grind
        rw [e5]
        have e6 : z = y * Q - 18446744073709551616 * yd := by omega
        have e7 : z * P = 18446744073709551616 * ym := by
          rw [e6, ← e4, ← hP]
          grind
        rw [e7]
        omega
theorem num_down {a : List Int} (da : Dig (b64 : Int) a) (s : Nat) (hs : s < 64) : num (downL s a) = num a / 2 ^ s := by
  obtain ⟨d, _, e⟩ := downL_facts s hs a da
  have h1 := num_val d
  have h2 := num_val da
  have hp := pow2_pos s
  have hr0 := Int.emod_nonneg (a.getD 0 0) (show (2 : Int) ^ s ≠ 0 by omega)
  have hr1 := Int.emod_lt_of_pos (a.getD 0 0) hp
  rw [← h1, ← h2] at e
  generalize a.getD 0 0 % 2 ^ s = r at *
  obtain ⟨r', rfl⟩ := Int.eq_ofNat_of_zero_le hr0
  have hP : (2 : Int) ^ s = ((2 ^ s : Nat) : Int) := by simp
  rw [hP] at e hr1
  have e2 : num a = r' + 2 ^ s * num (downL s a) := by
    have : ((r' + 2 ^ s * num (downL s a) : Nat) : Int) = (r' : Int) + ((2 ^ s : Nat) : Int) * (num (downL s a) : Int) := by simp
    rw [Int.mul_comm] at e
    omega
  rw [e2, Nat.add_mul_div_left _ _ (Nat.pow_pos (by decide)), Nat.div_eq_of_lt (by omega), Nat.zero_add]
end Go.Proofs.Ytgeanpnkllnipab.Z
end
section
namespace Go.Proofs.Ytgeanpnkllnipab.Z
open Go.RowKit Go.Proofs.Ytgeanpnkllnipab.F Go.Proofs.YtgeanpnkllnipabW.PrintWords Go.Proofs.YtgeanpnkllnipabW.PrintMore
set_option linter.unusedSimpArgs false
set_option linter.unusedVariables false
theorem limbs_dig' (v : Nat) : Dig (b64 : Int) (limbs v) := toD_dig b64_two v
theorem limbs_can' (v : Nat) : Can (limbs v) := toD_can b64_two v
theorem limbs_len' {v n : Nat} (h : v < b64 ^ n) : (limbs v).length ≤ n := toD_len_le b64_two h
theorem pow_pos64' (n : Nat) : 0 < b64 ^ n := Nat.pow_pos (by decide)
theorem num_strip' {l : List Int} (d : Dig (b64 : Int) l) : num (strip l) = num l := by rw [strip_limbs d, num_limbs]
theorem vdrop (B : Int) (a : List Int) (j : Nat) : val B (a.drop j) = a.getD j 0 + B * val B (a.drop (j + 1)) := by
  by_cases h : j < a.length
  · rw [List.drop_eq_getElem_cons h]
    simp [val, List.getD_eq_getElem?_getD, h]
  · rw [List.drop_of_length_le (by omega), List.drop_of_length_le (by omega)]
    simp [val, List.getD_eq_getElem?_getD, Nat.le_of_not_lt h]
theorem vsplit (B : Int) (a : List Int) (j : Nat) (hj : j ≤ a.length) : val B a = val B (a.take j) + B ^ j * val B (a.drop j) := by
  have := val_append B (a.take j) (a.drop j)
  rw [List.take_append_drop, List.length_take, Nat.min_eq_left hj] at this
  exact this
theorem clone_ev (l : List Int) (h : l.length ≤ 100000) : api_Nat_uint64.f l = some l := by
  unfold api_Nat_uint64.f
  simp only [Option.bind_some, List.nil_append, List.length_nil]
  rw [if_pos (by omega)]
theorem long_l2 (a q : List Int) (da : Dig (b64 : Int) a) (ha : a.length ≤ 100000) (hq : q.length ≤ 100000) (s : Nat) (hs : s < 64) (n : Nat) :
    ∀ (i : Nat) (p : List Int), a.length - i = n → i ≤ a.length → p.length = i → p ++ downL s (a.drop i) = downL s a →
      Evt (fun k => nat_long.l2 k (s : Int) q a (p ++ List.replicate n 0) (a.length : Int) (i : Int)) (strip q, strip (downL s a)) := by
  induction n with
  | zero =>
    intro i p hn hi hp he
    refine Evt.succ ?_
    simp only [nat_long.l2]
    refine Evt.ite_neg (by omega) ?_
    rw [List.drop_of_length_le (by omega)] at he
    simp only [downL, List.append_nil] at he
    rw [List.replicate_zero, List.append_nil, he]
    have hdl := (downL_facts s hs a da).2.1
    exact Evt.bind (nat_trim_ev q (by simp [maxLen]; omega)) (Evt.bind (nat_trim_ev (downL s a) (by simp [maxLen]; omega)) (h := fun t _ => some (strip q, t)) (Evt.pure _))
  | succ n ih =>
    intro i p hn hi hp he
    have hlt : i < a.length := by omega
    have rx := da a[i] (List.getElem_mem hlt)
    have ry := (da.drop (i + 1)).getD b64_pos 0
    have hB : (b64 : Int) = 18446744073709551616 := rfl
    rw [hB] at rx ry
    rw [List.drop_eq_getElem_cons hlt] at he
    simp only [downL] at he
    have hx : rd a (i : Int) = a[i] := by simp [rd_nat, hlt]
    refine Evt.succ ?_
    simp only [nat_long.l2]
    refine Evt.ite_pos (by omega) (Evt.ite_pos (by omega) (Evt.ite_pos (by omega) (Evt.ite_pos (by omega) (Evt.ite_pos (by simp; omega) ?_))))
    refine Evt.bind (Evt.pure _) ?_
    rw [hx, shr_u64 _ s (by omega), show ((i : Int)).toNat = p.length from by omega, List.replicate_succ, set_at, w64 (show -9223372036854775808 ≤ (i : Int) + 1 by omega) (by omega)]
    have hps := pow2_pos s
    have hxd0 : 0 ≤ a[i] / 2 ^ s := Int.ediv_nonneg rx.1 (by omega)
    by_cases h0 : s = 0
    · refine Evt.ite_neg (by omega) ?_
      rw [if_pos h0, Int.add_zero] at he
      refine (ih (i + 1) (p ++ [a[i] / 2 ^ s]) (by omega) (by omega) (by simp; omega) (by rw [List.append_assoc]; exact he)).congr (fun k => ?_) rfl
      rw [List.append_assoc]; rfl
    · refine Evt.ite_pos (by omega) ?_
      rw [if_neg h0] at he
      by_cases h1 : i + 1 < a.length
      · refine Evt.ite_pos (by omega) (Evt.ite_pos (by omega) (Evt.ite_pos (by rw [wu64_of (by omega) (by omega)]; omega) ?_))
        have hy : rd a ((i : Int) + 1) = a[i + 1] := by
          rw [show (i : Int) + 1 = ((i + 1 : Nat) : Int) from by omega, rd_nat]
          simp [List.getD_eq_getElem?_getD, h1]
        have hy2 : (a.drop (i + 1)).getD 0 0 = a[i + 1] := by simp [List.getD_eq_getElem?_getD, h1]
        have hg : rd (p ++ a[i] / 2 ^ s :: List.replicate n 0) (i : Int) = a[i] / 2 ^ s := by
          rw [rd_nat]
          simp [List.getD_eq_getElem?_getD, ← hp]
        rw [hy2] at he ry
        obtain ⟨f1, f2, f3, f4⟩ := shl_facts ry (s := 64 - s) (by omega)
        have hxd1 : a[i] / 2 ^ s < 2 ^ (64 - s) := by
          apply Int.ediv_lt_of_lt_mul hps
          rw [Int.mul_comm, pow64_split (by omega)]
          exact rx.2
        have hz0 : 0 ≤ (a[i + 1] * 2 ^ (64 - s)) % 18446744073709551616 := by omega
        have hz1 : (a[i + 1] * 2 ^ (64 - s)) % 18446744073709551616 < 18446744073709551616 := by omega
        have hq64 : (2 : Int) ^ (64 - s) ≤ 2 ^ 64 := pow_mono (by omega) (by omega)
        rw [hy, hg, wu64_of (show (0 : Int) ≤ 64 - (s : Int) by omega) (by omega), show (64 : Int) - (s : Int) = ((64 - s : Nat) : Int) from by omega, shl_u64 _ (64 - s) (by omega), set_at, or_comm_u64 hxd0 (by omega) hz0 hz1, or_u64 (64 - s) (by omega) hz0 f2 hz1 hxd0 hxd1]
        refine (ih (i + 1) (p ++ [(a[i + 1] * 2 ^ (64 - s)) % 18446744073709551616 + a[i] / 2 ^ s]) (by omega) (by omega) (by simp; omega) (by rw [List.append_assoc, Int.add_comm ((a[i + 1] * 2 ^ (64 - s)) % 18446744073709551616)]; exact he)).congr (fun k => ?_) rfl
        rw [List.append_assoc]; rfl
      · refine Evt.ite_neg (by omega) ?_
        have hy2 : (a.drop (i + 1)).getD 0 0 = 0 := by rw [List.drop_of_length_le (by omega)]; rfl
        rw [hy2, Int.zero_mul, Int.zero_emod, Int.add_zero] at he
        refine (ih (i + 1) (p ++ [a[i] / 2 ^ s]) (by omega) (by omega) (by simp; omega) (by rw [List.append_assoc]; exact he)).congr (fun k => ?_) rfl
        rw [List.append_assoc]; rfl
theorem long_l1 (r d q part sN : List Int) (s dk gs : Int) (a : Nat) (hpart : part.length ≤ 1000) (hdl : d.length ≤ 1000) (dp : Dig (b64 : Int) part) (dd : Dig (b64 : Int) d) (hg0 : 0 ≤ gs)
    (hfit : ∀ g : Int, 0 ≤ g → (num d * g.toNat ≤ num part ↔ g ≤ gs)) (hs : Evt (fun k => nat_less.f k part (limbs (num d * gs.toNat))) sN) (hsl : sN.length = part.length) (haq : a < q.length) (ha : a ≤ 1000000)
    {res : List Int × List Int} (fin : Evt (fun k => nat_long.l0 k s (r.take a ++ (sN ++ r.drop (a + part.length))) d dk (q.set a gs) ((a : Int) - 1)) res) (n : Nat) :
    ∀ g : Int, gs ≤ g → g < 18446744073709551616 → g - gs ≤ n → Evt (fun k => nat_long.l1 k s r d dk q (a : Int) g part) res := by
  have step : ∀ g : Int, gs ≤ g → g < 18446744073709551616 → (gs < g → Evt (fun k => nat_long.l1 k s r d dk q (a : Int) (IntKind.u64.wrap (g - 1)) part) res) → Evt (fun k => nat_long.l1 k s r d dk q (a : Int) g part) res := by
    intro g h1 h2 hnext
    have dg : Dig (b64 : Int) [g] := Dig.cons.2 ⟨⟨by omega, h2⟩, Dig.nil⟩
    have hng : num (strip [g]) = g.toNat := by rw [num_strip' dg, num_one (by omega)]
    refine Evt.succ ?_
    simp only [nat_long.l1]
    refine Evt.bind (nat_Of_ev g) ?_
    refine Evt.bind (nat_school_ev d (strip [g]) (by omega) (by have := strip_length [g]; simp at this; omega) dd (by rw [strip_limbs dg]; exact limbs_dig' _)) ?_
    refine Evt.bind (Evt.of (fun _ => clone_ev part (by omega))) ?_
    refine Evt.bind (nat_trim_ev part (by simp [maxLen]; omega)) ?_
    rw [hng, strip_limbs dp]
    refine Evt.bind (nat_compare_ev (limbs (num part)) (limbs (num d * g.toNat)) (limbs_dig' _) (limbs_dig' _) (limbs_can' _) (limbs_can' _) (by have := limbs_len' (num_lt dp); omega)) ?_
    rw [num_limbs, num_limbs]
    by_cases hle : g ≤ gs
    · obtain rfl : g = gs := by omega
      have hf := (hfit g hg0).2 (Int.le_refl _)
      refine Evt.ite_pos (by unfold cmpN; rw [if_neg (by omega)]; split <;> omega) ?_
      refine Evt.bind hs ?_
      refine Evt.ite_pos hsl (Evt.ite_pos (by omega) (Evt.ite_pos (by omega) ?_))
      rw [Int.toNat_natCast, w64 (by omega) (by omega)]
      exact fin
    · have hf : ¬ num d * g.toNat ≤ num part := fun h => hle ((hfit g (by omega)).1 h)
      refine Evt.ite_neg (by unfold cmpN; rw [if_pos (by omega)]; omega) ?_
      exact hnext (by omega)
  induction n with
  | zero =>
    intro g h1 h2 h3
    exact step g h1 h2 (fun h => absurd h (by omega))
  | succ n ih =>
    intro g h1 h2 h3
    refine step g h1 h2 (fun h => ?_)
    rw [wu64_of (by omega) (by omega)]
    exact ih (g - 1) (by omega) (by omega) (by omega)
theorem guess_fits {X D P0 D0 W r2 r1 r0 d1 d0 g h : Int} (hX : X = P0 + W * (r0 + 18446744073709551616 * (r1 + 18446744073709551616 * r2))) (hD : D = D0 + W * (d0 + 18446744073709551616 * d1))
    (hP : P0 < W) (hD0 : 0 ≤ D0) (hW : 0 < W) (hh : 0 ≤ h) (hfit : h * D ≤ X) : h * (d1 * 18446744073709551616 + d0) ≤ (r2 * 18446744073709551616 + r1) * 18446744073709551616 + r0 := by
  refine Int.not_lt.1 (fun hlt => ?_)
  have e1 : (r2 * 18446744073709551616 + r1) * 18446744073709551616 + r0 + 1 ≤ h * (d1 * 18446744073709551616 + d0) := hlt
  have e2 := Int.mul_le_mul_of_nonneg_left e1 (Int.le_of_lt hW)
  have e3 : 0 ≤ h * D0 := Int.mul_nonneg hh hD0
  have e4 : h * D = h * D0 + W * (h * (d1 * 18446744073709551616 + d0)) := by rw [hD]; grind
  have e5 : W * ((r2 * 18446744073709551616 + r1) * 18446744073709551616 + r0 + 1) = W * (r0 + 18446744073709551616 * (r1 + 18446744073709551616 * r2)) + W := by grind
  omega
theorem long_l0 (s : Nat) (hs : s < 64) (d : List Int) (dd : Dig (b64 : Int) d) (cd : Can d) (hk : 2 ≤ d.length) (hdl : d.length ≤ 400) (A : Int) (ql : Nat) (hql : ql ≤ 400) (i : Nat) :
    ∀ r q : List Int, i ≤ ql → r.length = ql + d.length → q.length = ql → Dig (b64 : Int) r → Dig (b64 : Int) q → val (b64 : Int) (r.drop i) < val (b64 : Int) d → val (b64 : Int) (q.drop i) * (b64 : Int) ^ i * val (b64 : Int) d + val (b64 : Int) r = A →
      Evt (fun k => nat_long.l0 k (s : Int) r d (d.length : Int) q ((i : Int) - 1)) (limbs (A / val (b64 : Int) d).toNat, limbs ((A % val (b64 : Int) d).toNat / 2 ^ s)) := by
  have hB : (b64 : Int) = 18446744073709551616 := rfl
  have hDn := val_nonneg b64_pos dd
  induction i with
  | zero =>
    intro r q hi hr hq dr dq hlt hv
    rw [List.drop_zero] at hlt
    rw [List.drop_zero, Int.pow_zero, Int.mul_one] at hv
    have hrn := val_nonneg b64_pos dr
    have e1 : A / val (b64 : Int) d = val (b64 : Int) q := by
      rw [← hv, Int.mul_comm, Int.mul_add_ediv_left _ _ (by omega), Int.ediv_eq_zero_of_lt hrn hlt, Int.add_zero]
    have e2 : A % val (b64 : Int) d = val (b64 : Int) r := by
      rw [← hv, Int.mul_comm, Int.add_comm, Int.add_mul_emod_self_left, Int.emod_eq_of_lt hrn hlt]
    rw [e1, e2, show (val (b64 : Int) q).toNat = num q from rfl, show (val (b64 : Int) r).toNat = num r from rfl]
    refine Evt.succ ?_
    simp only [nat_long.l0]
    refine Evt.ite_neg (by omega) ?_
    refine Evt.bind (nat_trim_ev r (by simp [maxLen]; omega)) ?_
    have hsl := strip_length r
    refine Evt.ite_pos (by omega) (Evt.ite_pos (by omega) ?_)
    rw [Int.toNat_natCast]
    have dsr : Dig (b64 : Int) (strip r) := by rw [strip_limbs dr]; exact limbs_dig' _
    refine (long_l2 (strip r) q dsr (by omega) (by omega) s hs (strip r).length 0 [] (by omega) (by omega) rfl (by simp)).congr (fun k => by rfl) ?_
    have hdw := downL_facts s hs (strip r) dsr
    rw [strip_limbs dq, strip_limbs hdw.1, num_down dsr s hs, num_strip' dr]
  | succ a ih =>
    intro r q hi hr hq dr dq hlt hv
    rw [show ((a + 1 : Nat) : Int) - 1 = (a : Int) from by omega]
    have hDlt := val_lt b64_pos dd
    have h1 := vsplit (b64 : Int) (r.drop (a + 1)) d.length (by rw [List.length_drop]; omega)
    rw [List.drop_drop] at h1
    have h2 := val_nonneg b64_pos ((dr.drop (a + 1)).take d.length)
    have h3 := val_nonneg b64_pos (dr.drop (a + 1 + d.length))
    have hW : (0 : Int) < (b64 : Int) ^ d.length := Int.pow_pos b64_pos
    have h4 : val (b64 : Int) (r.drop (a + 1 + d.length)) = 0 := by
      refine Int.le_antisymm (Int.not_lt.1 (fun h => ?_)) h3
      have := Int.mul_le_mul_of_nonneg_left (show (1 : Int) ≤ val (b64 : Int) (r.drop (a + 1 + d.length)) from h) (Int.le_of_lt hW)
      omega
    have hX := vdrop (b64 : Int) r a
    have hra := dr.getD b64_pos a
    have hpartl : (((r.take (a + d.length + 1)).drop a)).length = d.length + 1 := by
      rw [List.length_drop, List.length_take]; omega
    have hpv : val (b64 : Int) ((r.take (a + d.length + 1)).drop a) = val (b64 : Int) (r.drop a) := by
      have h5 := vsplit (b64 : Int) (r.drop a) (d.length + 1) (by rw [List.length_drop]; omega)
      rw [List.drop_drop, show a + (d.length + 1) = a + 1 + d.length from by omega, h4, Int.mul_zero, Int.add_zero] at h5
      rw [List.drop_take, show a + d.length + 1 - a = d.length + 1 from by omega]
      exact h5.symm
    have dpart : Dig (b64 : Int) ((r.take (a + d.length + 1)).drop a) := (dr.take _).drop _
    have hXlt : val (b64 : Int) (r.drop a) < 18446744073709551616 * val (b64 : Int) d := by
      rw [hX, hB] at *
      omega
    have hX0 : 0 ≤ val (b64 : Int) (r.drop a) := val_nonneg b64_pos (dr.drop a)
    have hD0 : 0 < val (b64 : Int) d := by
      have := val_nonneg b64_pos (dr.drop (a + 1))
      omega
    obtain ⟨gs, hgs⟩ : ∃ gs, gs = val (b64 : Int) (r.drop a) / val (b64 : Int) d := ⟨_, rfl⟩
    have hgs0 : 0 ≤ gs := by rw [hgs]; exact Int.ediv_nonneg hX0 hDn
    have hgs1 : gs < 18446744073709551616 := by
      rw [hgs]
      exact Int.ediv_lt_of_lt_mul hD0 hXlt
    have hle : ∀ g : Int, g * val (b64 : Int) d ≤ val (b64 : Int) (r.drop a) ↔ g ≤ gs := fun g => by rw [hgs, Int.le_ediv_iff_mul_le hD0]
    have hnd := num_val dd
    have hnp := num_val dpart
    have hfit : ∀ g : Int, 0 ≤ g → (num d * g.toNat ≤ num ((r.take (a + d.length + 1)).drop a) ↔ g ≤ gs) := by
      intro g hg
      rw [← hle g, ← hpv, ← hnp, ← hnd]
      obtain ⟨m, rfl⟩ := Int.eq_ofNat_of_zero_le hg
      rw [Int.toNat_natCast, Nat.mul_comm]
      have : ((m : Int) * (num d : Int)) = ((m * num d : Nat) : Int) := by simp
      rw [this]
      omega
    have hsmall : num d * gs.toNat ≤ num ((r.take (a + d.length + 1)).drop a) := (hfit gs hgs0).2 (Int.le_refl _)
    obtain ⟨sN, s1, s2, s3, s4⟩ := nat_less_ev ((r.take (a + d.length + 1)).drop a) (limbs (num d * gs.toNat)) (by omega) (limbs_len' (Nat.lt_of_le_of_lt hsmall (num_lt dpart))) dpart (limbs_dig' _) (by rw [num_limbs]; exact hsmall)
    rw [num_limbs] at s3
    have hsv : val (b64 : Int) sN = val (b64 : Int) (r.drop a) - gs * val (b64 : Int) d := by
      rw [← num_val s2, s3, ← hpv, ← hnp, ← hnd]
      obtain ⟨m, hm⟩ := Int.eq_ofNat_of_zero_le hgs0
      rw [hm] at hsmall ⊢
      rw [Int.toNat_natCast] at hsmall ⊢
      have : ((m : Int) * (num d : Int)) = ((num d * m : Nat) : Int) := by rw [Nat.mul_comm]; simp
      rw [this]
      omega
    have hslt : val (b64 : Int) sN < val (b64 : Int) d := by
      have h6 := Int.emod_lt_of_pos (val (b64 : Int) (r.drop a)) hD0
      have h7 := Int.emod_add_mul_ediv (val (b64 : Int) (r.drop a)) (val (b64 : Int) d)
      rw [← hgs, Int.mul_comm] at h7
      omega
    have hnew : (r.take a ++ (sN ++ r.drop (a + sN.length))).drop a = sN ++ r.drop (a + sN.length) := by
      rw [List.drop_append, List.drop_of_length_le (by rw [List.length_take]; omega), List.length_take, Nat.min_eq_left (by omega), Nat.sub_self, List.drop_zero, List.nil_append]
    have hnv : val (b64 : Int) (sN ++ r.drop (a + sN.length)) = val (b64 : Int) sN := by
      rw [val_append, s4, hpartl, show a + (d.length + 1) = a + 1 + d.length from by omega, h4, Int.mul_zero, Int.add_zero]
    have hfin := ih (r.take a ++ (sN ++ r.drop (a + sN.length))) (q.set a gs) (by omega) (by simp only [List.length_append, List.length_take, List.length_drop, s4, hpartl]; omega) (by rw [List.length_set]; exact hq)
      (Dig.append.2 ⟨dr.take _, Dig.append.2 ⟨s2, dr.drop _⟩⟩) (dq.set _ ⟨hgs0, hgs1⟩) (by rw [hnew, hnv]; exact hslt) (by
        rw [val_append, hnv, hsv, List.length_take, Nat.min_eq_left (by omega)]
        have e1 : (q.set a gs).drop a = gs :: q.drop (a + 1) := by
          rw [List.drop_eq_getElem_cons (by rw [List.length_set]; omega), List.drop_set, if_pos (Nat.lt_succ_self a)]
          simp
        rw [e1]
        simp only [val]
        have h8 := vsplit (b64 : Int) r a (by omega)
        rw [Int.pow_succ] at hv
        rw [← hv, h8]
        generalize val (b64 : Int) (q.drop (a + 1)) = Q
        generalize (b64 : Int) ^ a = W
        generalize val (b64 : Int) d = D
        generalize (b64 : Int) = B
        grind)
    have k1 := can_last cd (by omega)
    have kd1 := dd.getD b64_pos (d.length - 1)
    have kd0 := dd.getD b64_pos (d.length - 2)
    have kr2 := dr.getD b64_pos (a + d.length)
    have kr1 := dr.getD b64_pos (a + d.length - 1)
    have kr0 := dr.getD b64_pos (a + d.length - 2)
    rw [hB] at kd1 kd0 kr2 kr1 kr0
    obtain ⟨g, g1, g2, g3⟩ := nat_guess_ev (r2 := r.getD (a + d.length) 0) (r1 := r.getD (a + d.length - 1) 0) (r0 := r.getD (a + d.length - 2) 0) (d1 := d.getD (d.length - 1) 0) (d0 := d.getD (d.length - 2) 0) kr2.1 kr1 kr0 ⟨by omega, kd1.2⟩ kd0
    have hgg : gs ≤ g := by
      refine g3 gs hgs1 ?_
      have eX : val (b64 : Int) (r.drop a) = val (b64 : Int) ((r.drop a).take (d.length - 2)) + (b64 : Int) ^ (d.length - 2) * (r.getD (a + d.length - 2) 0 + 18446744073709551616 * (r.getD (a + d.length - 1) 0 + 18446744073709551616 * r.getD (a + d.length) 0)) := by
        rw [vsplit (b64 : Int) (r.drop a) (d.length - 2) (by rw [List.length_drop]; omega), List.drop_drop, show a + (d.length - 2) = a + d.length - 2 from by omega, vdrop (b64 : Int) r (a + d.length - 2), show a + d.length - 2 + 1 = a + d.length - 1 from by omega, vdrop (b64 : Int) r (a + d.length - 1), show a + d.length - 1 + 1 = a + d.length from by omega, vdrop (b64 : Int) r (a + d.length), show a + d.length + 1 = a + 1 + d.length from by omega, h4, Int.mul_zero, Int.add_zero, hB]
      have eD : val (b64 : Int) d = val (b64 : Int) (d.take (d.length - 2)) + (b64 : Int) ^ (d.length - 2) * (d.getD (d.length - 2) 0 + 18446744073709551616 * d.getD (d.length - 1) 0) := by
        have := vsplit (b64 : Int) d (d.length - 2) (by omega)
        rw [vdrop (b64 : Int) d (d.length - 2), show d.length - 2 + 1 = d.length - 1 from by omega, vdrop (b64 : Int) d (d.length - 1), show d.length - 1 + 1 = d.length from by omega, List.drop_length] at this
        simp only [val, Int.mul_zero, Int.add_zero] at this
        rw [hB] at this ⊢
        exact this
      have hPlt := val_lt b64_pos ((dr.drop a).take (d.length - 2))
      rw [List.length_take, List.length_drop, Nat.min_eq_left (by omega)] at hPlt
      exact guess_fits (g := 0) eX eD hPlt (val_nonneg b64_pos (dd.take _)) (Int.pow_pos b64_pos) hgs0 ((hle gs).2 (Int.le_refl _))
    refine Evt.succ ?_
    simp only [nat_long.l0]
    rw [w64 (x := (a : Int) + (d.length : Int)) (by omega) (by omega), w64 (x := (a : Int) + (d.length : Int) - 1) (by omega) (by omega), w64 (x := (a : Int) + (d.length : Int) - 2) (by omega) (by omega), w64 (x := (d.length : Int) - 1) (by omega) (by omega), w64 (x := (d.length : Int) - 2) (by omega) (by omega), w64 (x := (a : Int) + (d.length : Int) + 1) (by omega) (by omega)]
    rw [show (a : Int) + (d.length : Int) - 1 = ((a + d.length - 1 : Nat) : Int) from by omega, show (a : Int) + (d.length : Int) - 2 = ((a + d.length - 2 : Nat) : Int) from by omega, show (a : Int) + (d.length : Int) = ((a + d.length : Nat) : Int) from by omega, show (d.length : Int) - 1 = ((d.length - 1 : Nat) : Int) from by omega, show (d.length : Int) - 2 = ((d.length - 2 : Nat) : Int) from by omega, show ((a + d.length : Nat) : Int) + 1 = ((a + d.length + 1 : Nat) : Int) from by omega]
    simp only [rd_nat, Int.toNat_natCast]
    refine Evt.ite_pos (by omega) (Evt.ite_pos (by omega) (Evt.ite_pos (by omega) (Evt.ite_pos (by omega) (Evt.ite_pos (by omega) (Evt.ite_pos (by omega) (Evt.ite_pos (by omega) (Evt.ite_pos (by omega) (Evt.ite_pos (by omega) (Evt.ite_pos (by omega) (Evt.ite_pos (by omega) ?_))))))))))
    refine Evt.bind g1 ?_
    refine Evt.ite_pos (by omega) (Evt.ite_pos (by omega) (Evt.ite_pos (by omega) ?_))
    refine long_l1 r d q ((r.take (a + d.length + 1)).drop a) sN (s : Int) (d.length : Int) gs a (by omega) (by omega) dpart dd hgs0 hfit s1 s4 (by omega) (by omega) ?_ (g - gs).toNat g hgg g2.2 (by omega)
    rw [← s4]
    exact hfin
theorem nat_long_ev (a b : List Int) (da : Dig (b64 : Int) a) (db : Dig (b64 : Int) b) (cb : Can b) (hb : 2 ≤ b.length) (hab : b.length ≤ a.length) (ha : a.length ≤ 390) :
    Evt (fun k => nat_long.f k a b) (limbs (num a / num b), limbs (num a % num b)) := by
  have hB : (b64 : Int) = 18446744073709551616 := rfl
  have ht := can_last cb (by omega)
  have htr := db.getD b64_pos (b.length - 1)
  rw [hB] at htr
  obtain ⟨t, htt⟩ : ∃ t, t = b.getD (b.length - 1) 0 := ⟨_, rfl⟩
  rw [← htt] at ht htr
  have hbl1 := bl_lt t.toNat
  have hbl2 : bl t.toNat ≤ 64 := bl_le (by omega)
  have hbl3 := bl_pos (n := t.toNat) (by omega)
  obtain ⟨s, hs⟩ : ∃ s, s = 64 - bl t.toNat := ⟨_, rfl⟩
  have hs64 : s < 64 := by omega
  obtain ⟨r, r1, r2, r3, r4⟩ := nat_up_ev a da (by omega) s hs64
  obtain ⟨e, e1, e2, e3, e4⟩ := nat_up_ev b db (by omega) s hs64
  have v1 := vsplit (b64 : Int) b (b.length - 1) (by omega)
  rw [vdrop (b64 : Int) b (b.length - 1), show b.length - 1 + 1 = b.length from by omega, List.drop_length, ← htt] at v1
  simp only [val, Int.mul_zero, Int.add_zero] at v1
  have v2 := val_lt b64_pos (db.take (b.length - 1))
  rw [List.length_take, Nat.min_eq_left (by omega)] at v2
  have v3 := val_nonneg b64_pos (db.take (b.length - 1))
  have hnb := num_val db
  have hWp := pow_pos64' (b.length - 1)
  have hpc := pow_cast b64 (b.length - 1)
  have nlo : b64 ^ (b.length - 1) ≤ num b := by
    have h5 : (b64 : Int) ^ (b.length - 1) * 1 ≤ (b64 : Int) ^ (b.length - 1) * t := Int.mul_le_mul_of_nonneg_left (by omega) (by rw [hpc]; omega)
    rw [Int.mul_one] at h5
    omega
  have nhi : num b < b64 ^ (b.length - 1) * 2 ^ bl t.toNat := by
    have h5 : t + 1 ≤ ((2 ^ bl t.toNat : Nat) : Int) := by omega
    have h6 : (b64 : Int) ^ (b.length - 1) * (t + 1) ≤ (b64 : Int) ^ (b.length - 1) * ((2 ^ bl t.toNat : Nat) : Int) := Int.mul_le_mul_of_nonneg_left h5 (by rw [hpc]; omega)
    rw [Int.mul_add, Int.mul_one, hpc] at h6
    rw [hpc] at v1 v2
    have h7 : ((b64 ^ (b.length - 1) * 2 ^ bl t.toNat : Nat) : Int) = ((b64 ^ (b.length - 1) : Nat) : Int) * ((2 ^ bl t.toNat : Nat) : Int) := by simp
    omega
  have hP : 0 < 2 ^ s := Nat.pow_pos (by omega)
  have p64 : 2 ^ bl t.toNat * 2 ^ s = b64 := by
    rw [← Nat.pow_add, show bl t.toNat + s = 64 from by omega]
    rfl
  have dhi : num b * 2 ^ s < b64 ^ b.length := by
    have h6 := Nat.mul_lt_mul_of_pos_right nhi hP
    rw [Nat.mul_assoc, p64, ← Nat.pow_succ, show (b.length - 1).succ = b.length from by omega] at h6
    exact h6
  have dlo : b64 ^ (b.length - 1) ≤ num b * 2 ^ s := Nat.le_trans nlo (Nat.le_mul_of_pos_right _ hP)
  have dlen : (limbs (num b * 2 ^ s)).length = b.length := by
    have h6 := limbs_len' dhi
    have h7 : ¬ (limbs (num b * 2 ^ s)).length ≤ b.length - 1 := fun h => by
      have := (toD_len_iff b64_two (num b * 2 ^ s) (b.length - 1)).1 h
      omega
    omega
  have hvd : val (b64 : Int) (limbs (num b * 2 ^ s)) = ((num b * 2 ^ s : Nat) : Int) := val_toD b64_two _
  unfold nat_long.f
  rw [w64 (x := (b.length : Int) - 1) (by omega) (by omega)]
  refine Evt.ite_pos (by omega) (Evt.ite_pos (by omega) ?_)
  rw [show (b.length : Int) - 1 = ((b.length - 1 : Nat) : Int) from by omega, rd_nat, ← htt]
  have lz : Evt (fun k => bits_LeadingZeros64.f k t) (s : Int) := by
    unfold bits_LeadingZeros64.f
    refine (Evt.bind (bits_Len64_ev (x := t) (by omega) (by omega)) (h := fun t333 _ => some (wrap64 (64 - t333))) (Evt.pure _)).congr (fun k => rfl) ?_
    rw [w64 (by omega) (by omega)]
    omega
  refine Evt.bind lz ?_
  rw [wu64_of (by omega) (by omega)]
  refine Evt.bind r1 ?_
  refine Evt.bind e1 ?_
  refine Evt.bind (nat_trim_ev e (by simp [maxLen]; omega)) ?_
  rw [strip_limbs e2, e4, dlen, r3]
  rw [w64 (x := ((a.length + 1 : Nat) : Int) - (b.length : Int)) (by omega) (by omega), show ((a.length + 1 : Nat) : Int) - (b.length : Int) = ((a.length + 1 - b.length : Nat) : Int) from by omega, Int.toNat_natCast]
  refine Evt.ite_pos (by omega) (Evt.ite_pos (by omega) ?_)
  refine Evt.bind (Evt.pure _) ?_
  rw [List.length_replicate, w64 (by omega) (by omega)]
  have hmain := long_l0 s hs64 (limbs (num b * 2 ^ s)) (limbs_dig' _) (limbs_can' _) (by omega) (by omega) (val (b64 : Int) r) (a.length + 1 - b.length) (by omega) (a.length + 1 - b.length) r (List.replicate (a.length + 1 - b.length) 0) (Nat.le_refl _) (by omega) (by simp) r2 (Dig.replicate b64_pos _) (by
    have h6 := vsplit (b64 : Int) r (a.length + 1 - b.length) (by omega)
    have h7 := val_nonneg b64_pos (r2.take (a.length + 1 - b.length))
    have h8 := num_val r2
    rw [r4] at h8
    have h9 := num_lt da
    have h10 : num a * 2 ^ s < b64 ^ a.length * 2 ^ s := Nat.mul_lt_mul_of_pos_right h9 hP
    have h11 : b64 ^ a.length * 2 ^ s ≤ b64 ^ (a.length + 1 - b.length) * (num b * 2 ^ s) := by
      have : b64 ^ a.length = b64 ^ (a.length + 1 - b.length) * b64 ^ (b.length - 1) := by
        rw [← Nat.pow_add, show a.length + 1 - b.length + (b.length - 1) = a.length from by omega]
      rw [this, Nat.mul_assoc]
      exact Nat.mul_le_mul_left _ (Nat.mul_le_mul_right _ nlo)
    rw [hvd]
    refine Int.not_le.1 (fun hge => ?_)
    have h12 := Int.mul_le_mul_of_nonneg_left hge (show (0 : Int) ≤ (b64 : Int) ^ (a.length + 1 - b.length) by rw [pow_cast]; omega)
    have h13 : (b64 : Int) ^ (a.length + 1 - b.length) * ((num b * 2 ^ s : Nat) : Int) = ((b64 ^ (a.length + 1 - b.length) * (num b * 2 ^ s) : Nat) : Int) := by rw [pow_cast, ← Int.natCast_mul]
    rw [h13] at h12
    omega) (by
    rw [List.drop_of_length_le (by simp)]
    simp [val])
  rw [dlen] at hmain
  refine hmain.congr (fun k => rfl) ?_
  have h8 := num_val r2
  rw [hvd, ← h8, r4, show ((num a * 2 ^ s : Nat) : Int) / ((num b * 2 ^ s : Nat) : Int) = ((num a * 2 ^ s / (num b * 2 ^ s) : Nat) : Int) from rfl, show ((num a * 2 ^ s : Nat) : Int) % ((num b * 2 ^ s : Nat) : Int) = ((num a * 2 ^ s % (num b * 2 ^ s) : Nat) : Int) from rfl, Int.toNat_natCast, Int.toNat_natCast, Nat.mul_div_mul_right _ _ hP, Nat.mul_mod_mul_right, Nat.mul_div_cancel _ hP]
end Go.Proofs.Ytgeanpnkllnipab.Z
end
section
namespace Go.Proofs.Ytgeanpnkllnipab.Z
open Go.RowKit Go.Proofs.Ytgeanpnkllnipab.F Go.Proofs.YtgeanpnkllnipabW.PrintWords
set_option linter.unusedSimpArgs false
set_option linter.unusedVariables false
theorem nat_Div_ev (a b : List Int) (ha : a.length ≤ maxLen) (hb : b.length ≤ maxLen) (da : Dig (b64 : Int) a) (db : Dig (b64 : Int) b) : Evt (fun k => nat_Div.f k a b) (divV a b) := by
  unfold nat_Div.f divV
  rw [nat_right_eq _ (by intro l hl; simp at hl; rcases hl with rfl | rfl <;> assumption)]
  simp only [Option.bind_some, List.all_cons, List.all_nil, Bool.and_true, Bool.and_eq_true]
  by_cases h : rightB a = true ∧ rightB b = true
  · rw [if_pos h]
    refine Evt.ite_pos h ?_
    obtain ⟨h1, c1⟩ := (rightB_iff a).1 h.1
    obtain ⟨h2, c2⟩ := (rightB_iff b).1 h.2
    have hz := num_zero_iff db c2
    by_cases h0 : b.length = 0
    · rw [if_pos (hz.2 h0)]
      exact Evt.ite_pos (by omega) (Evt.pure _)
    · have hnz : num b ≠ 0 := fun e => h0 (hz.1 e)
      rw [if_neg hnz]
      refine Evt.ite_neg (by omega) ?_
      refine Evt.bind (nat_compare_ev a b da db c1 c2 (by omega)) ?_
      by_cases hlt : num a < num b
      · refine Evt.ite_pos (by unfold cmpN; rw [if_pos hlt]; omega) ?_
        refine Evt.bind (Evt.of (fun _ => clone_ev a (by omega))) ?_
        rw [Nat.div_eq_of_lt hlt, Nat.mod_eq_of_lt hlt, limbs_num da c1]
        rw [show limbs 0 = [] from toD_zero b64]
        exact Evt.pure _
      · refine Evt.ite_neg (by unfold cmpN; rw [if_neg hlt]; split <;> omega) ?_
        by_cases h3 : b.length = 1
        · obtain ⟨x, rfl⟩ : ∃ x, b = [x] := List.length_eq_one_iff.1 h3
          have hx := (Dig.cons.1 db).1
          have hx0 : num [x] = x.toNat := num_one hx.1
          refine Evt.ite_pos (by simp) (Evt.ite_pos (by simp) ?_)
          have hr : rd [x] 0 = x := rfl
          rw [hr]
          rw [hx0] at hnz ⊢
          have hB : (b64 : Int) = 18446744073709551616 := rfl
          rw [hB] at hx
          refine Evt.bind (nat_short_ev a x da (by omega) (by omega) hx.2) ?_
          refine (Evt.bind (nat_Of_ev ((num a % x.toNat : Nat) : Int)) (h := fun t _ => some (limbs (num a / x.toNat), t, (0 : Int))) (Evt.pure _)).congr (fun k => rfl) ?_
          have hm : num a % x.toNat < x.toNat := Nat.mod_lt _ (by omega)
          have dr : Dig (b64 : Int) [((num a % x.toNat : Nat) : Int)] := Dig.cons.2 ⟨by rw [hB]; omega, Dig.nil⟩
          rw [strip_limbs dr, num_one (by omega), Int.toNat_natCast]
        · refine Evt.ite_neg (by omega) ?_
          have hab := num_len_le db c2 da (by omega)
          exact Evt.bind (nat_long_ev a b da db c2 (by omega) hab (by omega)) (h := fun t _ => some (t.1, t.2, (0 : Int))) (Evt.pure _)
  · rw [if_neg h]
    exact Evt.ite_neg h (Evt.pure _)
theorem and_one_m {x : Int} (h0 : 0 ≤ x) (h1 : x < 18446744073709551616) : Go.bits .and .u64 x 1 = x % 2 := bits_mask .u64 64 (by decide) wraps_u64 1 (by decide) x h0 (by omega)
def mayM (n : List Int) : Bool := rightB n && mont_New.ok n
theorem head_dig {n : List Int} (dn : Dig (b64 : Int) n) : 0 ≤ n.getD 0 0 ∧ n.getD 0 0 < 18446744073709551616 := Dig.getD dn (by decide) 0
theorem ref_May_m {n : List Int} (hn : n.length ≤ maxLen) (dn : Dig (b64 : Int) n) : windbreakref02_May.f n = some (mayM n) := by
  obtain ⟨d0, d1⟩ := head_dig dn
  unfold windbreakref02_May.f mayM mont_New.ok
  rw [windbreakref01_Right_eq hn, and_one_m d0 d1, show rd n 0 = n.getD 0 0 from rfl]
  simp only [Option.bind_some]
  rw [Int.tmod_eq_emod_of_nonneg d0]
  generalize n.getD 0 0 = a at d0 d1 ⊢
  generalize n.length = m
  cases rightB n with
  | false => simp
  | true =>
    by_cases h1 : 0 < m
    · by_cases h2 : m ≤ 8
      · by_cases h3 : a % 2 = 1
        · by_cases h4 : m = 1
          · subst h4
            by_cases h5 : a = 1
            · subst h5; simp
            · have : 1 < a := by omega
              simp [h3, h5, this]
          · have h5 : (1 : Int) < (m : Int) := by omega
            have h6 : (m : Int) ≤ 8 := by omega
            have h7 : (0 : Int) < (m : Int) := by omega
            simp [h1, h2, h3, h4, h5, h6, h7]
        · have h6 : (m : Int) ≤ 8 := by omega
          have h7 : (0 : Int) < (m : Int) := by omega
          have h8 : a % 2 = 0 := by omega
          simp [h1, h2, h3, h6, h7, h8]
      · have h6 : ¬ (m : Int) ≤ 8 := by omega
        have h7 : (0 : Int) < (m : Int) := by omega
        simp [h1, h2, h6, h7]
    · have h7 : ¬ (0 : Int) < (m : Int) := by omega
      simp [h1, h7]
theorem pow_facts (m : Nat) (hm : m ≤ 63) : Dig (b64 : Int) (List.replicate m 0 ++ [1]) ∧ rightB (List.replicate m 0 ++ [1]) = true ∧ num (List.replicate m 0 ++ [1]) = b64 ^ m := by
  have hd : Dig (b64 : Int) (List.replicate m 0 ++ [1]) := Dig.append.2 ⟨Dig.replicate (by decide) _, Dig.cons.2 ⟨by decide, Dig.nil⟩⟩
  refine ⟨hd, (rightB_iff _).2 ⟨by simp; omega, fun _ => by simp⟩, ?_⟩
  have h := num_val hd
  rw [val_append, val_replicate] at h
  simp only [val, List.length_replicate, Int.mul_zero, Int.add_zero, Int.zero_add, Int.mul_one] at h
  have : ((b64 : Int)) ^ m = ((b64 ^ m : Nat) : Int) := by simp
  rw [this] at h
  omega
theorem mont_rest_ev {n : List Int} (hr : rightB n = true) (hl8 : n.length ≤ 8) (hn0 : num n ≠ 0) (dn : Dig (b64 : Int) n) (p : Nat) (hp : p ≤ 2) : Evt (fun k => mont_rest.f k n p) (limbs (b64 ^ (p * n.length) % num n)) := by
  unfold mont_rest.f
  have hm : p * n.length ≤ 2 * 8 := Nat.mul_le_mul hp hl8
  obtain ⟨h1, h2, h3⟩ := pow_facts (p * n.length) (by omega)
  have hd := nat_Div_ev (List.replicate (p * n.length) 0 ++ [1]) n (by simp [maxLen]; omega) (by simp only [maxLen]; omega) h1 dn
  unfold divV at hd
  rw [if_pos ⟨h2, hr⟩, if_neg hn0, h3] at hd
  exact Evt.bind hd (h := fun q _ => some q.2.1) (Evt.pure _)
theorem mayM_parts {n : List Int} (dn : Dig (b64 : Int) n) (h : mayM n = true) : rightB n = true ∧ 0 < n.length ∧ n.length ≤ 8 ∧ num n ≠ 0 ∧ mont_New.ok n = true := by
  unfold mayM at h
  obtain ⟨h1, h2⟩ := Bool.and_eq_true_iff.1 h
  have h3 := h2
  unfold mont_New.ok at h3
  simp only [Bool.and_eq_true, decide_eq_true_eq] at h3
  obtain ⟨⟨⟨o1, o2⟩, o3⟩, o4⟩ := h3
  exact ⟨h1, o1, o2, fun e => by have := (num_zero_iff dn ((rightB_iff n).1 h1).2).1 e; omega, h2⟩
theorem mont_New_ev {n : List Int} (hn : n.length ≤ maxLen) (dn : Dig (b64 : Int) n) : Evt (fun k => mont_New.f k n) (if mayM n = true then some (limbs (b64 ^ (1 * n.length) % num n), limbs (b64 ^ (2 * n.length) % num n)) else none) := by
  unfold mont_New.f
  rw [nat_Right_eq hn]
  simp only [Option.bind_some]
  by_cases h : mayM n = true
  · obtain ⟨h1, h2, h3, h4, h5⟩ := mayM_parts dn h
    rw [if_pos h]
    refine Evt.ite_pos ⟨h1, h5⟩ ?_
    refine Evt.bind (mont_rest_ev h1 h3 h4 dn 1 (by omega)) ?_
    exact Evt.bind (mont_rest_ev h1 h3 h4 dn 2 (by omega)) (Evt.pure _)
  · rw [if_neg h]
    refine Evt.ite_neg (fun ⟨a, b⟩ => h ?_) (Evt.pure _)
    unfold mayM
    rw [a, b]
    rfl
theorem fresh_ev {n : List Int} (hn : n.length ≤ maxLen) (dn : Dig (b64 : Int) n) : Evt (fun k => windbreaklaw02_fresh.f k n) (if mayM n = true then (some (limbs (b64 ^ (1 * n.length) % num n), limbs (b64 ^ (2 * n.length) % num n)), true) else (none, true)) := by
  unfold windbreaklaw02_fresh.f
  refine Evt.bind (mont_New_ev hn dn) ?_
  rw [ref_May_m hn dn]
  simp only [Option.bind_some]
  refine (Evt.pure _).congr (fun k => rfl) ?_
  by_cases h : mayM n = true
  · rw [if_pos h, if_pos h, if_pos h]; rfl
  · rw [if_neg h, if_neg h, if_neg h]; rfl
end Go.Proofs.Ytgeanpnkllnipab.Z
end
section
namespace Go.Proofs.Ytgeanpnkllnipab.Pure
open Go.RowKit Go.Proofs.Ytgeanpnkllnipab.F Go.Proofs.Ytgeanpnkllnipab.Z
set_option linter.unusedSimpArgs false
set_option linter.unusedVariables false
theorem MontNews : windbreaklaw02_MontNews.Pure := by
  intro n hl _ hw
  apply Evt.get
  unfold windbreaklaw02_MontNews.f
  have d5 : Dig (b64 : Int) [5] := dig_one (by omega) (by omega)
  refine Evt.bind (fresh_ev (n := [5]) (by simp [maxLen]) d5) ?_
  refine Evt.bind (fresh_ev hl (dig_of_wf hw)) ?_
  refine (Evt.pure _).congr (fun k => rfl) ?_
  by_cases h : mayM [5] = true <;> by_cases g : mayM n = true <;> simp [h, g]
end Go.Proofs.Ytgeanpnkllnipab.Pure
end
section
namespace Go.Proofs.YtgeanpnkllnipabW.PrintWords
open Go.ChangeShapes Go.WideShapes
theorem sized_ints {H : Type} {enc : TypeId × Value → H} {P : Program} {W : World} {base : Nat} {spare : Nat → Bool} {held : Bool} {t e : TypeId} {k : IntKind} {a : Option Addr} {len cap : Nat} {d : DataW H} {ps : List MemPlace} {ts : List TypeId} {ds : List (DataW H)} {j : Nat}
    (hsz : (DataW.weightsEach P ts ds).all (· ≤ reachBytes) = true) (ht : ts[j]? = some t) (hd : ds[j]? = some d) (hu : P.underlying t = some (.slice e)) (he : P.underlying e = some (.int k)) (hc : P.cellsOf e = 1) {B : Nat} (hB : P.bytesOf e = B)
    (h : DataW.Trod enc P W base spare held t (.slice a len cap) d ps) : len * B ≤ 140737488351232 := by
  obtain ⟨fuel, hf⟩ := h
  rcases open_ints hu he hc hf with ⟨hcs, _⟩ | ⟨x, l, c, zs, hcs, _, hl, _, hz, hx, _, _⟩
  · simp [Value.cells] at hcs
    obtain ⟨rfl, rfl, rfl⟩ := hcs
    simp
  · simp [Value.cells] at hcs
    obtain ⟨rfl, rfl, rfl⟩ := hcs
    obtain ⟨hx, _⟩ := Prod.mk.inj hx
    subst hx
    have z := sized_slice hsz ht hd hu
    rw [hB] at z
    have hl2 : len ≤ zs.length := by
      rw [hz]
      split
      · exact hl
      · exact Nat.le_refl _
    have h1 : (lits (H := H) k (zs.take len)).length + (lits (H := H) k (zs.drop len)).length = zs.length := by
      simp [lits]
      omega
    rw [h1] at z
    exact Nat.le_trans (Nat.mul_le_mul_right _ hl2) z
end Go.Proofs.YtgeanpnkllnipabW.PrintWords
end
section
namespace Go.Proofs.Ytgeanpnkllnipab.montNews
open Go.ChangeShapes Go.WideShapes Go.ChangeAt Go.RowKit
open Go.ChangeMaps (open_string shut_string)
set_option linter.unusedVariables false
theorem own : ownKnob Try.prog.godebug = none := by kernel_rfl
theorem laidOut : laidOutB Try.prog = true := by kernel_rfl
def IsRow (k : IntKind) (w : World) (a : Option Addr) (len cap : Nat) (zs : List Int) : Prop :=
  (a = none ∧ len = 0 ∧ cap = 0 ∧ zs = []) ∨
  ∃ x, a = some x ∧ len ≤ cap ∧ cap ≤ maxLen ∧ zs.length = cap ∧ (∀ i, i < zs.length → w.cell? (x.add i) = some (.int k (zs.getD i 0))) ∧ ∀ n ∈ zs, (Lit.int k n).wf = true
set_option maxRecDepth 100000 in
theorem lifted (os : Os) (started : os.Started) (H : Type) (enc : TypeId × Value → H) :
    ReturnsInHanded {} Try.checked os 3 .any (Rows.montNewsSpec.pre6 enc Try.prog Try.f3 Rows.montNewsRow.domain false) (Rows.montNewsSpec.post enc Try.prog Try.f3 false true false false) := by
  refine returnsInHanded_of_change_sized (C := Try.checked) own started (by kernel_rfl) Try.func3
    (ChangeSpec.witness6 (enc := enc) (C := Try.checked) false ⟨#[], #[.slice none 0 0], []⟩ 8 (by kernel_rfl) (by kernel_rfl) (by kernel_rfl) (by kernel_rfl)) ?_
  intro W base args ds gs before hval0 hW hcnd hsz0 _
  have hsz : (DataW.weightsEach Try.prog (Try.f3.params.toList ++ Rows.montNewsSpec.plain.varTypes Try.prog) (ds ++ gs)).all (· ≤ reachBytes) = true := hsz0
  have hval : ∀ (j : Nat) t v, Try.f3.params[j]? = some t → args[j]? = some v → Value.okWide Try.prog W .any base t v := hval0
  have hW' := hW
  obtain ⟨p, q, hA0, hV, rfl, hfz, hnd⟩ := hW
  have hA : DataW.TrodAll enc Try.prog W 0 (fun _ => true) true Try.f3.params.toList args.toList ds p := hA0
  rw [Try.params3] at hA hval hsz
  obtain ⟨v0, vs0, d0, ds0, p0, q0, hargs, rfl, rfl, h0, r0⟩ := trodAll_cons hA
  obtain ⟨rfl, rfl, rfl⟩ := trodAll_nil r0
  obtain rfl : args = #[v0] := by cases args; simp_all
  obtain ⟨rfl, rfl⟩ := trodVars_none hV
  obtain ⟨a0, len0, cap0, rfl⟩ := okWide_slice Try.underlying23 (hval 0 23 v0 rfl rfl)
  have k0 := h0
  have lt0 : ∀ x ∈ p0, x.block < W.heap.size := by obtain ⟨m, hm⟩ := k0; exact DataW.trod_lt m _ _ _ hm
  obtain ⟨z0, w0⟩ : ∃ zs, IsRow .u64 W a0 len0 cap0 zs := by
    obtain ⟨fuel, hf⟩ := h0
    rcases open_ints Try.underlying23 Try.underlying27 (by kernel_rfl) hf with ⟨hcs, _⟩ | ⟨x, l, c, zs, hcs, _, hl, hm, hz, _, hcell, hwz⟩
    · simp [Value.cells] at hcs
      obtain ⟨rfl, rfl, rfl⟩ := hcs
      exact ⟨[], .inl ⟨rfl, rfl, rfl, rfl⟩⟩
    · simp [Value.cells] at hcs
      obtain ⟨rfl, rfl, rfl⟩ := hcs
      exact ⟨zs, .inr ⟨_, rfl, hl, hm, by simpa using hz, hcell, hwz⟩⟩
  have y0 : len0 * 8 ≤ 140737488351232 := Go.Proofs.YtgeanpnkllnipabW.PrintWords.sized_ints hsz (j := 0) (t := 23) rfl rfl Try.underlying23 Try.underlying27 (by kernel_rfl) (by kernel_rfl) h0
  clear hA0 hval0 hsz0 hsz
  refine (F.windbreaklaw02_MontNews.walk Pure.MontNews a0 len0 cap0 z0 W w0 y0).mono fun e W' ⟨he, bel⟩ => ?_
  subst he
  exact ⟨_, rfl, _, _, _, [], _, [], hW', trodAll_mk1 (shut_bool Try.underlying4 _), (trodAll_cons_mk (Below.trod laidOut (by kernel_rfl) (of_decide_eq_true (by kernel_rfl)) k0 bel lt0) trodAll_mk0), rfl, bel.frame _, fun h => by cases h⟩
theorem over : Rows.montNewsRow.holds Try.pinned (OpenSpec.ofChange Rows.montNewsSpec) :=
  OpenClaim.holds_of_wide 3 Try.f3 rfl rfl rfl rfl rfl rfl rfl ⟨rfl, rfl, rfl, rfl, rfl⟩ rfl rfl rfl rfl rfl (by kernel_rfl) Try.func3 (by kernel_rfl)
    (of_decide_eq_true (by kernel_rfl)) (by unfold Func.isWrapper; first | (rw [if_pos (by decide +kernel)]; kernel_rfl) | (rw [if_neg (by decide +kernel)]; exact ⟨rfl, rfl⟩))
    (fun os started H enc _ => lifted os started H enc)
theorem proved : Rows.MontNewsSaid := over
#print axioms proved
end Go.Proofs.Ytgeanpnkllnipab.montNews
namespace Go.Proofs.Ytgeanpnkllnipab
theorem montNews_holds : Rows.MontNewsSaid := montNews.proved
end Go.Proofs.Ytgeanpnkllnipab
end
