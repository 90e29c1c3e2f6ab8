/- Proved: the law PrimeWitness of layer 5: whether a number bears witness against another is the document's answer; for every input, without a condition but the card's own. -/
import Derived.Test.YtgeanpnkllnipaaDoorMPrimeWitnessb
import Derived.Test.YtgeanpnkllnipaaDoorRows
import Derived.Test.YtgeanpnkllnipaaDoorCards
import Derived.Test.YtgeanpnkllnipaaDoorTie
import Derived.Lib.LaidTab
import Derived.Handy
import Derived.Lay
import Derived.MakeChecks
import Derived.SevenTiedAt
import Derived.WalkKit
import Derived.ProofKit
import Derived.OpenShut
import Derived.ShutString
import Derived.ChangeOld
import Derived.Below
import Derived.SizedLaws

section
namespace Go.Proofs.YtgeanpnkllnipaaDoor.Z
open Go.RowKit Go.Proofs.YtgeanpnkllnipaaDoor.F Go.Proofs.YtgeanpnkllnipaaDoorW.PrintWords
set_option linter.unusedSimpArgs false
set_option linter.unusedVariables false
theorem ref_Div_ev (a b : List Int) (ha : a.length ≤ maxLen) (hb : b.length ≤ maxLen) (da : Dig (b64 : Int) a) (db : Dig (b64 : Int) b) : Evt (fun k => windbreakref01_Div.f k a b) (divV a b) := by
  unfold windbreakref01_Div.f divV
  rw [windbreakref01_Right_eq ha, windbreakref01_Right_eq hb]
  simp only [Option.bind_some]
  have J : ∀ x : Bool, (x = false → rightB a = true ∧ rightB b = true) → Evt (fun k => windbreakref01_Div.j0 k a b x) (if x = true then ([], [], 1) else (if num b = 0 then ([], [], 3) else (limbs (num a / num b), limbs (num a % num b), 0))) := by
    intro x hx
    refine Evt.succ ?_
    simp only [windbreakref01_Div.j0]
    refine Evt.cond (fun _ => Evt.pure _) (fun hc => ?_)
    have h := hx (by simpa using hc)
    obtain ⟨h1, c1⟩ := (rightB_iff a).1 h.1
    obtain ⟨h2, c2⟩ := (rightB_iff b).1 h.2
    have hz := num_zero_iff db c2
    by_cases h0 : b.length = 0
    · rw [if_pos (hz.2 h0)]
      exact Evt.ite_pos (by omega) (Evt.pure _)
    · have hnz : num b ≠ 0 := fun e => h0 (hz.1 e)
      rw [if_neg hnz]
      refine Evt.ite_neg (by omega) ?_
      have n1 := num_lt_p da h1
      have n2 := num_lt_p db h2
      have n3 := pow_lt_lim (n := 64) (by omega)
      have e1 : num a / num b ≤ num a := Nat.div_le_self _ _
      have e2 : num a % num b ≤ num a := Nat.mod_le _ _
      have n4 : num b * 65536 < lim := by
        have g1 : num b * 65536 < b64 ^ 64 * b64 := Nat.mul_lt_mul'' n2 (by decide)
        rw [← Nat.pow_succ] at g1
        exact Nat.lt_of_lt_of_le g1 (lim_pow (by omega))
      refine Evt.bind (ref_In_ev a (by omega) da) (Evt.bind (ref_In_ev b (by omega) db) ?_)
      refine Evt.bind (ref_div_ev (num a) (num b) (by omega) (by omega) n4) ?_
      refine Evt.bind (ref_Out_ev (num a / num b) (by omega)) ?_
      exact Evt.bind (ref_Out_ev (num a % num b) (by omega)) (h := fun t _ => some (limbs (num a / num b), t.1, (0 : Int))) (Evt.pure _)
  cases hA : rightB a with
  | true =>
    refine Evt.ite_pos rfl ((J _ (fun h => ⟨hA, by simpa using h⟩)).congr (fun k => rfl) ?_)
    cases hB : rightB b <;> simp
  | false =>
    refine Evt.ite_neg (by simp) ((J _ (fun h => by simp at h)).congr (fun k => rfl) ?_)
    simp
end Go.Proofs.YtgeanpnkllnipaaDoor.Z
end

section
namespace Go.Proofs.YtgeanpnkllnipaaDoor.Z
open Go.RowKit Go.Proofs.YtgeanpnkllnipaaDoor.F Go.Proofs.YtgeanpnkllnipaaDoorW.PrintWords
set_option linter.unusedSimpArgs false
set_option linter.unusedVariables false
theorem ref_Rest_ev (a b : List Int) (ha : a.length ≤ maxLen) (hb : b.length ≤ maxLen) (da : Dig (b64 : Int) a) (db : Dig (b64 : Int) b) : Evt (fun k => windbreakref01_Rest.f k a b) (divV a b).2.1 := by
  unfold windbreakref01_Rest.f
  exact Evt.bind (ref_Div_ev a b ha hb da db) (h := fun t _ => some t.2.1) (Evt.pure _)
end Go.Proofs.YtgeanpnkllnipaaDoor.Z
end

section
namespace Go.Proofs.YtgeanpnkllnipaaDoor.Z
open Go.RowKit Go.Proofs.YtgeanpnkllnipaaDoor.F Go.Proofs.YtgeanpnkllnipaaDoorW.PrintWords
set_option linter.unusedSimpArgs false
set_option linter.unusedVariables false
theorem ref_told_ev (v : Nat) (hv : v < lim) : Evt (fun k => windbreakref01_told.f k (digs v)) (toldV v) := by
  unfold windbreakref01_told.f toldV
  refine Evt.bind (ref_Out_ev v hv) ?_
  by_cases h : v < b64 ^ 64
  · simp only [h, decide_true, if_true]
    exact Evt.pure _
  · simp only [h, decide_false, if_false]
    exact Evt.ite_neg (by simp) (Evt.pure _)
end Go.Proofs.YtgeanpnkllnipaaDoor.Z
end

section
namespace Go.Proofs.YtgeanpnkllnipaaDoor.Z
open Go.RowKit Go.Proofs.YtgeanpnkllnipaaDoor.F Go.Proofs.YtgeanpnkllnipaaDoorW.PrintWords
set_option linter.unusedSimpArgs false
set_option linter.unusedVariables false
def mulW (a b : List Int) : List Int × Int := if rightB a = true ∧ rightB b = true then toldV (num a * num b) else ([], 1)
theorem ref_Mul_ev (a b : List Int) (ha : a.length ≤ maxLen) (hb : b.length ≤ maxLen) (da : Dig (b64 : Int) a) (db : Dig (b64 : Int) b) : Evt (fun k => windbreakref01_Mul.f k a b) (mulW a b) := by
  unfold windbreakref01_Mul.f mulW
  rw [windbreakref01_Right_eq ha, windbreakref01_Right_eq hb]
  simp only [Option.bind_some]
  have J : ∀ x : Bool, (x = false → rightB a = true ∧ rightB b = true) → Evt (fun k => windbreakref01_Mul.j0 k a b x) (if x = true then ([], 1) else toldV (num a * num b)) := by
    intro x hx
    refine Evt.succ ?_
    simp only [windbreakref01_Mul.j0]
    refine Evt.cond (fun _ => Evt.pure _) (fun hc => ?_)
    have h := hx (by simpa using hc)
    obtain ⟨h1, c1⟩ := (rightB_iff a).1 h.1
    obtain ⟨h2, c2⟩ := (rightB_iff b).1 h.2
    have n1 := num_lt_p da h1
    have n2 := num_lt_p db h2
    have n3 := pow_lt_lim (n := 64) (by omega)
    have n4 : num a * num b < lim := by
      have g3 := Nat.mul_lt_mul'' n1 n2
      rw [← Nat.pow_add] at g3
      exact Nat.lt_of_lt_of_le g3 (lim_pow (by omega))
    refine Evt.bind (ref_In_ev a (by omega) da) (Evt.bind (ref_In_ev b (by omega) db) ?_)
    have hm := ref_mul_ev (digs (num a)) (digs (num b)) (toD_dig b16_two _) (toD_dig b16_two _) (by have := digs_len (v := num a) (by omega); omega) (by have := digs_len (v := num b) (by omega); omega)
    rw [num16_digs, num16_digs] at hm
    refine Evt.bind hm ?_
    exact Evt.bind (ref_told_ev (num a * num b) n4) (h := fun t _ => some (t.1, t.2)) (Evt.pure _)
  cases hA : rightB a with
  | true =>
    refine Evt.ite_pos rfl ((J _ (fun h => ⟨hA, by simpa using h⟩)).congr (fun k => rfl) ?_)
    cases hB : rightB b <;> simp
  | false =>
    refine Evt.ite_neg (by simp) ((J _ (fun h => by simp at h)).congr (fun k => rfl) ?_)
    simp
end Go.Proofs.YtgeanpnkllnipaaDoor.Z
end

section
namespace Go.Proofs.YtgeanpnkllnipaaDoor.Z
open Go.RowKit Go.Proofs.YtgeanpnkllnipaaDoor.F Go.Proofs.YtgeanpnkllnipaaDoorW.PrintWords
set_option linter.unusedSimpArgs false
set_option linter.unusedVariables false
theorem ref_Bits_loop (a : List Int) (ha : a.length ≤ 64) (h0 : a.length ≠ 0) (x : Nat) : ∀ c : Nat, x < 18446744073709551616 → c + bl x ≤ 64 → Evt (fun k => windbreakref01_Bits.l0 k a (c : Int) (x : Int)) ((c : Int) + ((bl x : Nat) : Int) + 64 * ((a.length : Int) - 1)) := by
  induction x using Nat.strongRecOn with
  | _ x ih =>
    intro c hx hc
    refine Evt.succ ?_
    simp only [windbreakref01_Bits.l0]
    by_cases h : x = 0
    · subst h
      refine Evt.ite_neg (by omega) ?_
      rw [w64 (show -9223372036854775808 ≤ (a.length : Int) - 1 by omega) (by omega), w64 (show -9223372036854775808 ≤ 64 * ((a.length : Int) - 1) by omega) (by omega), w64 (by omega) (by omega), bl_zero]
      exact (Evt.pure _).congr (fun k => rfl) (by omega)
    · refine Evt.ite_pos (by omega) ?_
      have hb := bl_half h
      rw [Int.tdiv_eq_ediv_of_nonneg (by omega), wu64_of (by omega) (by omega), w64 (by omega) (by omega), show (x : Int) / 2 = ((x / 2 : Nat) : Int) from by omega]
      have := ih (x / 2) (by omega) (c + 1) (by omega) (by omega)
      refine this.congr (fun k => rfl) ?_
      omega
theorem ref_Bits_ev (a : List Int) (ha : a.length ≤ maxLen) (da : Dig (b64 : Int) a) : Evt (fun k => windbreakref01_Bits.f k a) (bitsV a) := by
  unfold windbreakref01_Bits.f bitsV
  rw [windbreakref01_Right_eq ha]
  simp only [Option.bind_some]
  have J : ∀ x : Bool, (x = false → rightB a = true ∧ a.length ≠ 0) → Evt (fun k => windbreakref01_Bits.j0 k a x) (if x = true then 0 else 64 * ((a.length : Int) - 1) + ((bl (a.getD (a.length - 1) 0).toNat : Nat) : Int)) := by
    intro x hx
    refine Evt.succ ?_
    simp only [windbreakref01_Bits.j0]
    refine Evt.cond (fun _ => Evt.pure _) (fun hc => ?_)
    have h := hx (by simpa using hc)
    obtain ⟨h1, c1⟩ := (rightB_iff a).1 h.1
    have h0 := h.2
    rw [w64 (show -9223372036854775808 ≤ (a.length : Int) - 1 by omega) (by omega)]
    refine Evt.ite_pos (by omega) (Evt.ite_pos (by omega) ?_)
    rw [rd_getD, show ((a.length : Int) - 1).toNat = a.length - 1 from by omega]
    have hr := da.getD b64_pos (a.length - 1)
    simp only [b64] at hr
    have hb := bl_le (x := (a.getD (a.length - 1) 0).toNat) (m := 64) (by omega)
    have hl := ref_Bits_loop a h1 h0 (a.getD (a.length - 1) 0).toNat 0 (by omega) (by omega)
    refine hl.congr (fun k => ?_) (by omega)
    rw [show (((a.getD (a.length - 1) 0).toNat : Nat) : Int) = a.getD (a.length - 1) 0 from by omega]
    rfl
  cases hA : rightB a with
  | true =>
    refine Evt.ite_pos rfl ((J (a.length == 0) (fun h => ⟨hA, by simpa using h⟩)).congr (fun k => ?_) ?_)
    · have : ((a.length : Int) == 0) = (a.length == 0) := by
        rw [Bool.eq_iff_iff]; simp
      rw [this]
    · by_cases h0 : a.length = 0
      · simp [h0]
      · simp [h0]
  | false =>
    refine Evt.ite_neg (by simp) ((J _ (fun h => by simp at h)).congr (fun k => rfl) ?_)
    simp
end Go.Proofs.YtgeanpnkllnipaaDoor.Z
end

section
namespace Go.Proofs.YtgeanpnkllnipaaDoor.Z
open Go.RowKit Go.Proofs.YtgeanpnkllnipaaDoor.F Go.Proofs.YtgeanpnkllnipaaDoorW.PrintWords
set_option linter.unusedSimpArgs false
set_option linter.unusedVariables false
def bitW (a : List Int) (i : Int) : Bool := rightB a && decide (0 ≤ i) && decide (i / 64 < a.length) && ((a.getD (i.toNat / 64) 0 / 2 ^ (i.toNat % 64)) % 2 == 1)
theorem ref_Bit_loop (n m : Nat) : ∀ (j : Nat) (x : Int), 0 ≤ x → x < 18446744073709551616 → j ≤ n % 64 → n % 64 - j = m → Evt (fun k => windbreakref01_Bit.l0 k (n : Int) x (j : Int)) ((x / 2 ^ m) % 2 == 1) := by
  induction m with
  | zero =>
    intro j x h0 h1 hj hm
    refine Evt.succ ?_
    simp only [windbreakref01_Bit.l0]
    rw [Int.tmod_eq_emod_of_nonneg (show 0 ≤ (n : Int) by omega), Int.tmod_eq_emod_of_nonneg h0]
    refine Evt.ite_neg (by omega) ?_
    rw [Int.pow_zero, Int.ediv_one]
    exact Evt.pure _
  | succ m ih =>
    intro j x h0 h1 hj hm
    refine Evt.succ ?_
    simp only [windbreakref01_Bit.l0]
    rw [Int.tmod_eq_emod_of_nonneg (show 0 ≤ (n : Int) by omega), Int.tdiv_eq_ediv_of_nonneg h0, wu64_of (by omega) (by omega), w64 (by omega) (by omega)]
    refine Evt.ite_pos (by omega) ?_
    refine (ih (j + 1) (x / 2) (by omega) (by omega) (by omega) (by omega)).congr (fun k => rfl) ?_
    rw [Int.ediv_ediv_of_nonneg (by omega), Int.pow_succ, Int.mul_comm]
theorem ref_Bit_ev (a : List Int) (i : Int) (ha : a.length ≤ maxLen) (da : Dig (b64 : Int) a) (hi : i < 9223372036854775808) : Evt (fun k => windbreakref01_Bit.f k a i) (bitW a i) := by
  unfold windbreakref01_Bit.f bitW
  rw [windbreakref01_Right_eq ha]
  simp only [Option.bind_some]
  have J : ∀ x : Bool, (x = false → 0 ≤ i ∧ i / 64 < a.length) → Evt (fun k => windbreakref01_Bit.j0 k a i x) (if x = true then false else ((a.getD (i.toNat / 64) 0 / 2 ^ (i.toNat % 64)) % 2 == 1)) := by
    intro x hx
    refine Evt.succ ?_
    simp only [windbreakref01_Bit.j0]
    refine Evt.cond (fun _ => Evt.pure _) (fun hc => ?_)
    obtain ⟨h0, h1⟩ := hx (by simpa using hc)
    obtain ⟨n, rfl⟩ := Int.eq_ofNat_of_zero_le h0
    rw [Int.tdiv_eq_ediv_of_nonneg (by omega), w64 (by omega) (by omega)]
    refine Evt.ite_pos (by omega) (Evt.ite_pos h1 ?_)
    rw [rd_getD, show ((n : Int) / 64).toNat = n / 64 from by omega, show ((n : Int)).toNat = n from Int.toNat_natCast n]
    have hr := da.getD b64_pos (n / 64)
    simp only [b64] at hr
    exact ref_Bit_loop n (n % 64) 0 _ hr.1 hr.2 (by omega) (by omega)
  cases hA : rightB a with
  | true =>
    refine Evt.ite_pos rfl ?_
    by_cases h0 : i < 0
    · refine Evt.ite_pos h0 ((J _ (fun h => by simp at h)).congr (fun k => rfl) ?_)
      simp [show ¬ 0 ≤ i by omega]
    · refine Evt.ite_neg h0 ?_
      rw [Int.tdiv_eq_ediv_of_nonneg (by omega), w64 (by omega) (by omega)]
      refine (J _ (fun h => ⟨by omega, by simpa using h⟩)).congr (fun k => rfl) ?_
      by_cases h1 : i / 64 < a.length
      · simp [h1, show 0 ≤ i by omega]
      · simp [h1]
  | false =>
    refine Evt.ite_neg (by simp) ((J _ (fun h => by simp at h)).congr (fun k => rfl) ?_)
    simp
end Go.Proofs.YtgeanpnkllnipaaDoor.Z
end

section
namespace Go.Proofs.YtgeanpnkllnipaaDoor.Z
open Go.RowKit Go.Proofs.YtgeanpnkllnipaaDoor.F Go.Proofs.YtgeanpnkllnipaaDoorW.PrintWords
set_option linter.unusedSimpArgs false
set_option linter.unusedVariables false
theorem ref_Of_eq (n : Int) : windbreakref01_Of.f n = some (strip [n]) := by
  unfold windbreakref01_Of.f
  by_cases h : n = 0
  · simp [h, strip]
  · simp [h, strip]
end Go.Proofs.YtgeanpnkllnipaaDoor.Z
end

section
namespace Go.Proofs.YtgeanpnkllnipaaDoor.Z
open Go.RowKit Go.Proofs.YtgeanpnkllnipaaDoor.F Go.Proofs.YtgeanpnkllnipaaDoorW.PrintWords
set_option linter.unusedSimpArgs false
set_option linter.unusedVariables false
theorem ref_Of_limbs {x : Nat} (h : x < b64) : windbreakref01_Of.f (x : Int) = some (limbs x) := by
  rw [ref_Of_eq]
  by_cases h0 : x = 0
  · subst h0
    rw [lz]
    simp [strip]
  · rw [limbs_one h0 h]
    simp [strip, h0]
theorem ref_Times_ev (A B M : Nat) (hA : A < b64 ^ 64) (hB : B < b64 ^ 64) (hAB : A * B < b64 ^ 64) (hM : 0 < M) (hM1 : M < b64 ^ 64) : Evt (fun k => windbreakref02_Times.f k (limbs A) (limbs B) (limbs M)) (limbs (A * B % M)) := by
  unfold windbreakref02_Times.f
  have m := ref_Mul_ev (limbs A) (limbs B) (lmax hA) (lmax hB) (dig_limbs' _) (dig_limbs' _)
  have e : mulW (limbs A) (limbs B) = (limbs (A * B), 0) := by
    unfold mulW toldV
    rw [if_pos ⟨right_limbs' hA, right_limbs' hB⟩, num_limbs, num_limbs, if_pos hAB]
  rw [e] at m
  refine Evt.bind m ?_
  have d := ref_Rest_ev (limbs (A * B)) (limbs M) (lmax hAB) (lmax hM1) (dig_limbs' _) (dig_limbs' _)
  unfold divV at d
  rw [if_pos ⟨right_limbs' hAB, right_limbs' hM1⟩, num_limbs, num_limbs, if_neg (by omega)] at d
  exact Evt.bind d (Evt.pure _)
theorem bitW_limbs {E : Nat} (hE : E < b64 ^ 64) (i : Nat) : bitW (limbs E) (i : Int) = E.testBit i := by
  have hb : b64 = 2 ^ 64 := rfl
  unfold bitW
  rw [right_limbs' hE, Int.toNat_natCast, limb_at (dig_limbs' _) (toD_can b64_two E), num_limbs]
  have e1 : ((((E / b64 ^ (i / 64) % b64 : Nat) : Int) / 2 ^ (i % 64)) % 2 == 1) = E.testBit i := by
    have h1 : (((E / b64 ^ (i / 64) % b64 : Nat) : Int) / 2 ^ (i % 64)) % 2 = ((E / b64 ^ (i / 64) % b64 / 2 ^ (i % 64) % 2 : Nat) : Int) := by simp
    have h2 : (E / b64 ^ (i / 64) % b64).testBit (i % 64) = E.testBit i := by
      rw [hb, Nat.testBit_mod_two_pow, ← Nat.pow_mul, Nat.testBit_div_two_pow]
      have : i % 64 < 64 := Nat.mod_lt _ (by omega)
      simp only [this, decide_true, Bool.true_and]
      congr 1
      omega
    rw [h1, ← h2, Nat.testBit_eq_decide_div_mod_eq]
    by_cases h3 : E / b64 ^ (i / 64) % b64 / 2 ^ (i % 64) % 2 = 1
    · rw [h3]; rfl
    · simp only [h3, decide_false]
      have : E / b64 ^ (i / 64) % b64 / 2 ^ (i % 64) % 2 = 0 := by omega
      rw [this]; rfl
  rw [e1]
  by_cases h : ((i : Int) / 64 < ((limbs E).length : Int))
  · have h0 : (0 : Int) ≤ (i : Int) := by omega
    simp [h, h0]
  · have hl : (limbs E).length ≤ i / 64 := by omega
    have h4 : E < 2 ^ i := by
      have h5 := toD_lt_pow b64_two E
      refine Nat.lt_of_lt_of_le h5 ?_
      have h6 : (b64 : Nat) ^ (limbs E).length ≤ b64 ^ (i / 64) := Nat.pow_le_pow_right (by decide) hl
      refine Nat.le_trans h6 ?_
      rw [hb, ← Nat.pow_mul]
      exact Nat.pow_le_pow_right (by omega) (by omega)
    rw [Nat.testBit_lt_two_pow h4]
    simp
theorem ref_pow_loop {A E M : Nat} (hA : A < b64 ^ 32) (hE : E < b64 ^ 64) (hM : 1 < M) (hM1 : M < b64 ^ 32) : ∀ i : Nat, i ≤ 4096 →
    Evt (fun k => windbreakref02_Power.l0 k (limbs A) (limbs E) (limbs M) (limbs (A ^ (E / 2 ^ i) % M)) ((i : Int) - 1)) (limbs (A ^ E % M)) := by
  have big : ∀ {x y : Nat}, x < b64 ^ 32 → y < b64 ^ 32 → x * y < b64 ^ 64 := by
    intro x y hx hy
    have : b64 ^ 64 = b64 ^ 32 * b64 ^ 32 := by rw [← Nat.pow_add]
    rw [this]
    exact Nat.mul_lt_mul'' hx hy
  have up : ∀ {x : Nat}, x < b64 ^ 32 → x < b64 ^ 64 := fun h => Nat.lt_of_lt_of_le h (Nat.pow_le_pow_right (by decide) (by omega))
  intro i
  induction i with
  | zero =>
    intro _
    refine Evt.succ ?_
    simp only [windbreakref02_Power.l0]
    refine Evt.ite_neg (by omega) ?_
    rw [Nat.pow_zero, Nat.div_one]
    exact Evt.pure _
  | succ i ih =>
    intro hi
    refine Evt.succ ?_
    simp only [windbreakref02_Power.l0]
    rw [show ((i + 1 : Nat) : Int) - 1 = (i : Int) from by omega]
    refine Evt.ite_pos (by omega) ?_
    have hz : A ^ (E / 2 ^ (i + 1)) % M < b64 ^ 32 := Nat.lt_trans (Nat.mod_lt _ (by omega)) hM1
    refine Evt.bind (ref_Times_ev _ _ M (up hz) (up hz) (big hz hz) (by omega) (up hM1)) ?_
    have hb := ref_Bit_ev (limbs E) (i : Int) (lmax hE) (dig_limbs' _) (by omega)
    rw [bitW_limbs hE] at hb
    refine Evt.bind hb ?_
    rw [w64 (by omega) (by omega)]
    have e0 : A ^ (E / 2 ^ (i + 1)) % M * (A ^ (E / 2 ^ (i + 1)) % M) % M = A ^ (2 * (E / 2 ^ (i + 1))) % M := by
      rw [← Nat.mul_mod, ← Nat.pow_add]
      congr 2
      omega
    have e1 : E / 2 ^ (i + 1) = E / 2 ^ i / 2 := by rw [Nat.pow_succ, Nat.div_div_eq_div_mul]
    rw [e0]
    have ht : E.testBit i = decide (E / 2 ^ i % 2 = 1) := Nat.testBit_eq_decide_div_mod_eq ..
    by_cases h : E / 2 ^ i % 2 = 1
    · refine Evt.ite_pos (by rw [ht]; exact decide_eq_true h) ?_
      have hz2 : A ^ (2 * (E / 2 ^ (i + 1))) % M < b64 ^ 32 := Nat.lt_trans (Nat.mod_lt _ (by omega)) hM1
      refine Evt.bind (ref_Times_ev _ A M (up hz2) (up hA) (big hz2 hA) (by omega) (up hM1)) ?_
      have e2 : A ^ (2 * (E / 2 ^ (i + 1))) % M * A % M = A ^ (E / 2 ^ i) % M := by
        rw [Nat.mod_mul_mod, ← Nat.pow_succ, e1]
        congr 2
        omega
      rw [e2]
      exact ih (by omega)
    · refine Evt.ite_neg (by rw [ht]; simpa using h) ?_
      have e2 : A ^ (2 * (E / 2 ^ (i + 1))) % M = A ^ (E / 2 ^ i) % M := by
        rw [e1]
        congr 2
        omega
      rw [e2]
      exact ih (by omega)
theorem bl_limb {E j : Nat} (h : E < b64 ^ j) : bl E ≤ 64 * j := by
  have hb2 : (2 : Nat) ^ 64 = b64 := rfl
  exact bl_le (by rw [Nat.pow_mul, hb2]; exact h)
theorem ref_Power_ev {A E M : Nat} (hA : A < b64 ^ 32) (hE : E < b64 ^ 64) (hM : 1 < M) (hM1 : M < b64 ^ 32) : Evt (fun k => windbreakref02_Power.f k (limbs A) (limbs E) (limbs M)) (limbs (A ^ E % M)) := by
  unfold windbreakref02_Power.f
  have h1 : windbreakref01_Of.f 1 = some (limbs 1) := ref_Of_limbs (x := 1) (by decide)
  rw [h1]
  simp only [Option.bind_some]
  have hb := ref_Bits_ev (limbs E) (lmax hE) (dig_limbs' _)
  rw [bitsV_bl (dig_limbs' _) (right_limbs' hE), num_limbs] at hb
  refine Evt.bind hb ?_
  have hle0 := bl_limb (j := 64) hE
  have hle : bl E ≤ 4096 := by omega
  rw [w64 (by omega) (by omega)]
  have h := ref_pow_loop hA hE hM hM1 (bl E) hle
  rw [Nat.div_eq_of_lt (bl_lt E), Nat.pow_zero, Nat.mod_eq_of_lt hM] at h
  exact h
end Go.Proofs.YtgeanpnkllnipaaDoor.Z
end

section
namespace Go.Proofs.YtgeanpnkllnipaaDoor.Z
open Go.RowKit Go.Proofs.YtgeanpnkllnipaaDoor.F Go.Proofs.YtgeanpnkllnipaaDoorW.PrintWords
set_option linter.unusedSimpArgs false
set_option linter.unusedVariables false
theorem windbreakref01_Small_ev (l : List Int) (h : l.length ≤ maxLen) : Evt (fun k => windbreakref01_Small.f k l) (smallV l) := by
  unfold windbreakref01_Small.f smallV
  rw [windbreakref01_Right_eq h]
  simp only [Option.bind_some]
  have J : ∀ x : Bool, Evt (fun k => windbreakref01_Small.j0 k l x) (if x = true then (0, false) else (l.getD 0 0, true)) := by
    intro x
    refine Evt.succ ?_
    simp only [windbreakref01_Small.j0]
    refine Evt.cond (fun _ => Evt.pure _) (fun _ => ?_)
    by_cases h0 : l.length = 0
    · refine Evt.ite_pos (by omega) ?_
      rw [List.length_eq_zero_iff.1 h0]
      exact Evt.pure _
    · exact Evt.ite_neg (by omega) (Evt.ite_pos (by omega) (Evt.pure _))
  cases hr : rightB l with
  | true =>
    refine Evt.ite_pos rfl ?_
    refine (J _).congr (fun k => rfl) ?_
    by_cases h1 : l.length ≤ 1
    · rw [if_neg (by simp; omega), if_pos ⟨rfl, h1⟩]
    · rw [if_pos (by simp; omega), if_neg (fun h => h1 h.2)]
  | false =>
    refine Evt.ite_neg (by simp) ?_
    refine (J _).congr (fun k => rfl) ?_
    simp
end Go.Proofs.YtgeanpnkllnipaaDoor.Z
end

section
namespace Go.Proofs.YtgeanpnkllnipaaDoor.Z
open Go.RowKit Go.Proofs.YtgeanpnkllnipaaDoor.F Go.Proofs.YtgeanpnkllnipaaDoorW.PrintWords
set_option linter.unusedSimpArgs false
set_option linter.unusedVariables false
theorem ref_Small_limbs {x : Nat} (h : x < b64) : Evt (fun k => windbreakref01_Small.f k (limbs x)) ((x : Int), true) := by
  have h64 : x < b64 ^ 64 := Nat.lt_of_lt_of_le h (by rw [← Nat.pow_one b64, ← Nat.pow_mul]; exact Nat.pow_le_pow_right (by decide) (by omega))
  have hs := windbreakref01_Small_ev (limbs x) (lmax h64)
  refine hs.congr (fun k => rfl) ?_
  unfold smallV
  by_cases h0 : x = 0
  · subst h0
    rw [lz]
    rfl
  · have hr := right_limbs' h64
    rw [limbs_one h0 h] at hr ⊢
    rw [if_pos ⟨hr, by simp⟩]
    rfl
theorem ref_wit_l1 (n : Nat) (hn : 2 ≤ n) (hn1 : n < 1099511627776) : ∀ (s j x : Nat), x < n → s + j ≤ 64 → Evt (fun k => windbreakref05_Witness.l1 k (n : Int) ((s + j : Nat) : Int) (limbs n) (limbs x) (j : Int)) (witLoop n s x, 0) := by
  have hb : b64 = 18446744073709551616 := rfl
  have up : ∀ {x : Nat}, x < b64 ^ 2 → x < b64 ^ 64 := fun h => Nat.lt_of_lt_of_le h (Nat.pow_le_pow_right (by decide) (by omega))
  intro s
  induction s with
  | zero =>
    intro j x hx hj
    refine Evt.succ ?_
    simp only [windbreakref05_Witness.l1]
    exact Evt.ite_neg (by omega) (Evt.pure _)
  | succ s ih =>
    intro j x hx hj
    refine Evt.succ ?_
    simp only [windbreakref05_Witness.l1]
    refine Evt.ite_pos (by omega) ?_
    refine Evt.bind (ref_Small_limbs (x := x) (by omega)) ?_
    rw [wu64_of (x := (n : Int) - 1) (by omega) (by omega), witLoop]
    by_cases h : x = n - 1
    · rw [if_pos h]
      exact Evt.ite_pos (by show (x : Int) = _; omega) (Evt.pure _)
    · rw [if_neg h]
      refine Evt.ite_neg (by show ¬ (x : Int) = _; omega) ?_
      have hxx : x * x < b64 ^ 2 := by
        rw [Nat.pow_two]
        exact Nat.mul_lt_mul'' (by omega) (by omega)
      have h1 : ∀ {y : Nat}, y < b64 → y < b64 ^ 2 := fun h => by rw [Nat.pow_two]; exact Nat.lt_of_lt_of_le h (Nat.le_mul_of_pos_left _ (by decide))
      refine Evt.bind (ref_Times_ev x x n (up (h1 (by omega))) (up (h1 (by omega))) (up hxx) (by omega) (up (h1 (by omega)))) ?_
      rw [w64 (by omega) (by omega)]
      have := ih (j + 1) (x * x % n) (Nat.mod_lt _ (by omega)) (by omega)
      rw [show s + (j + 1) = s + 1 + j from by omega] at this
      exact this
theorem ref_wit_l0 (a n : Nat) (ha : a < 18446744073709551616) (hn : 2 ≤ n) (hn1 : n < 1099511627776) : ∀ (f i m : Nat), 0 < m → m < 2 ^ f → m < 18446744073709551616 → f + i ≤ 64 →
    Evt (fun k => windbreakref05_Witness.l0 k (a : Int) (n : Int) (m : Int) (i : Int)) (if a ^ (m / 2 ^ Lib.ctzFrom f m) % n ≤ 1 then (false, 0) else (witLoop n (i + Lib.ctzFrom f m) (a ^ (m / 2 ^ Lib.ctzFrom f m) % n), 0)) := by
  have hb : b64 = 18446744073709551616 := rfl
  intro f
  induction f with
  | zero => intro i m h0 h1; simp at h1; omega
  | succ f ih =>
    intro i m h0 h1 hm hi
    refine Evt.succ ?_
    simp only [windbreakref05_Witness.l0]
    have e1 : Int.tmod (m : Int) 2 = ((m % 2 : Nat) : Int) := by rw [Int.tmod_eq_emod_of_nonneg (by omega)]; omega
    have e2 : Int.tdiv (m : Int) 2 = ((m / 2 : Nat) : Int) := by rw [Int.tdiv_eq_ediv_of_nonneg (by omega)]; omega
    rw [e1, e2]
    by_cases h : m % 2 = 0
    · refine Evt.ite_pos (by omega) ?_
      rw [wu64_of (by omega) (by omega), w64 (by omega) (by omega)]
      have hc : Lib.ctzFrom (f + 1) m = 1 + Lib.ctzFrom f (m / 2) := by
        show (if m % 2 = 1 then 0 else 1 + Lib.ctzFrom f (m / 2)) = _
        rw [if_neg (by omega)]
      have hd : m / 2 ^ (1 + Lib.ctzFrom f (m / 2)) = m / 2 / 2 ^ Lib.ctzFrom f (m / 2) := by rw [Nat.pow_add, Nat.pow_one, Nat.div_div_eq_div_mul]
      have := ih (i + 1) (m / 2) (by omega) (by omega) (by omega) (by omega)
      rw [hc, hd, show i + (1 + Lib.ctzFrom f (m / 2)) = i + 1 + Lib.ctzFrom f (m / 2) from by omega]
      exact this
    · refine Evt.ite_neg (by omega) ?_
      have hc : Lib.ctzFrom (f + 1) m = 0 := by
        show (if m % 2 = 1 then 0 else 1 + Lib.ctzFrom f (m / 2)) = _
        rw [if_pos (by omega)]
      rw [hc, Nat.pow_zero, Nat.div_one, Nat.add_zero, ref_Of_limbs (x := n) (by omega), ref_Of_limbs (x := m) (by omega)]
      simp only [Option.bind_some]
      refine Evt.ite_neg (by omega) ?_
      have e3 : Int.tmod (a : Int) (n : Int) = ((a % n : Nat) : Int) := by rw [Int.tmod_eq_emod_of_nonneg (by omega)]; omega
      have hr : a % n < n := Nat.mod_lt _ (by omega)
      rw [e3, ref_Of_limbs (x := a % n) (by omega)]
      simp only [Option.bind_some]
      have up : ∀ {j y : Nat}, 1 ≤ j → y < b64 → y < b64 ^ j := by
        intro j y hj h
        refine Nat.lt_of_lt_of_le h ?_
        have := Nat.pow_le_pow_right (n := b64) (by decide) hj
        rwa [Nat.pow_one] at this
      have hp := ref_Power_ev (A := a % n) (E := m) (M := n) (up (by omega) (by omega)) (up (by omega) (by omega)) (by omega) (up (by omega) (by omega))
      rw [← Nat.pow_mod] at hp
      refine Evt.bind hp ?_
      have hlt : a ^ m % n < n := Nat.mod_lt _ (by omega)
      refine Evt.bind (ref_Small_limbs (x := a ^ m % n) (by omega)) ?_
      by_cases hle : a ^ m % n ≤ 1
      · rw [if_pos hle]
        exact Evt.ite_pos (by show ((a ^ m % n : Nat) : Int) ≤ 1; omega) (Evt.pure _)
      · rw [if_neg hle]
        refine Evt.ite_neg (by show ¬ ((a ^ m % n : Nat) : Int) ≤ 1; omega) ?_
        exact ref_wit_l1 n hn hn1 i 0 (a ^ m % n) hlt (by omega)
theorem ref_Witness_ev {a n : Int} (ha : 0 ≤ a) (ha1 : a < 18446744073709551616) (hn : 0 ≤ n) (hn1 : n < 18446744073709551616) : Evt (fun k => windbreakref05_Witness.f k a n) (witV a n) := by
  unfold windbreakref05_Witness.f witV
  rw [Int.tmod_eq_emod_of_nonneg hn]
  have J : ∀ x : Bool, (x = false → n % 2 ≠ 0 ∧ 3 ≤ n ∧ n < 1099511627776) → Evt (fun k => windbreakref05_Witness.j0 k a n x) (if x = true then (false, 1) else (witB a.toNat n.toNat, 0)) := by
    intro x hx
    refine Evt.succ ?_
    simp only [windbreakref05_Witness.j0]
    refine Evt.cond (fun _ => Evt.pure _) (fun hc => ?_)
    obtain ⟨h1, h2, h3⟩ := hx (by simpa using hc)
    obtain ⟨N, rfl⟩ : ∃ N : Nat, n = N := ⟨n.toNat, by omega⟩
    obtain ⟨A, rfl⟩ : ∃ A : Nat, a = A := ⟨a.toNat, by omega⟩
    rw [wu64_of (x := (N : Int) - 1) (by omega) (by omega), show (N : Int) - 1 = ((N - 1 : Nat) : Int) from by omega]
    unfold witB
    rw [Int.toNat_natCast, Int.toNat_natCast]
    have h := ref_wit_l0 A N (by omega) (by omega) (by omega) 64 0 (N - 1) (by omega) (by omega) (by omega) (by omega)
    rw [Nat.zero_add] at h
    refine h.congr (fun k => rfl) ?_
    by_cases hle : A ^ ((N - 1) / 2 ^ Lib.ctzFrom 64 (N - 1)) % N ≤ 1
    · rw [if_pos hle, if_pos hle]
    · rw [if_neg hle, if_neg hle]
  by_cases h1 : n % 2 = 0
  · exact Evt.ite_pos h1 ((J true (by simp)).congr (fun k => rfl) (by simp [h1]))
  · refine Evt.ite_neg h1 ?_
    by_cases h2 : n < 3
    · exact Evt.ite_pos h2 ((J true (by simp)).congr (fun k => rfl) (by simp [h2]))
    · refine Evt.ite_neg h2 ((J (decide (n ≥ 1099511627776)) (fun e => ?_)).congr (fun k => rfl) ?_)
      · have := of_decide_eq_false e
        omega
      · by_cases h3 : n ≥ 1099511627776
        · simp [h3]
        · simp [h1, h2, h3]
end Go.Proofs.YtgeanpnkllnipaaDoor.Z
end

section
namespace Go.Proofs.YtgeanpnkllnipaaDoor.Pure
open Go.RowKit Go.Proofs.YtgeanpnkllnipaaDoor.F Go.Proofs.YtgeanpnkllnipaaDoor.Z
set_option linter.unusedSimpArgs false
set_option linter.unusedVariables false
theorem PrimeWitness : windbreaklaw05_PrimeWitness.Pure := by
  intro a n wa wn
  apply Evt.get
  obtain ⟨a0, a1⟩ := wf_u64 wa
  obtain ⟨n0, n1⟩ := wf_u64 wn
  unfold windbreaklaw05_PrimeWitness.f
  have h1 := prime_Witness_ev (a := 2) (n := 9) (by omega) (by omega) (by omega) (by omega)
  rw [wit_two_nine] at h1
  refine Evt.bind h1 ?_
  refine Evt.bind (prime_Witness_ev a0 a1 n0 n1) ?_
  refine Evt.bind (ref_Witness_ev a0 a1 n0 n1) ?_
  refine Evt.ite_pos rfl (Evt.ite_pos (by simp) ?_)
  exact (Evt.pure _).congr (fun k => rfl) (by simp)
end Go.Proofs.YtgeanpnkllnipaaDoor.Pure
end

section
namespace Go.Proofs.YtgeanpnkllnipaaDoor.primeWitness
open Go.ChangeShapes Go.WideShapes Go.ChangeAt Go.RowKit
open Go.ChangeMaps (open_string shut_string)
set_option linter.unusedVariables false
theorem own : ownKnob Tryd.prog.godebug = none := by kernel_rfl
theorem tab_of_laid {W : World} (h : laidMetH Tryd.prog Rows.primeWitnessRow.laid W) : F.TabOk W := by
  rw [MakeChecks.laidMetH_plain _ _ _ (by kernel_rfl)] at h
  have hg : Tryd.prog.globalNamed "math/bits.deBruijn64tab" = some 0 := by kernel_rfl
  have hT := Lib.tabIs_of_head (k := .u8) (zs := Lib.deBruijn64tab.map (fun n : Nat => (n : Int))) hg (show (Tryd.prog.globals[0]?).map (·.type) = some 38 by kernel_rfl) Tryd.underlying38 Tryd.underlying5 (by kernel_rfl) (by kernel_rfl) (show laidMet Tryd.prog [("math/bits.deBruijn64tab", _)] W from h)
  intro j hj
  have := hT.cell hg j (by simpa using hj)
  rw [this]
  congr 2
  simp [List.getD, hj]
set_option maxRecDepth 100000 in
theorem lifted (os : Os) (started : os.Started) (H : Type) (enc : TypeId × Value → H) :
    ReturnsInHanded {} Tryd.checked os 3 .any (fun w args => (Rows.primeWitnessSpec.pre enc Tryd.prog Tryd.f3 Rows.primeWitnessRow.domain false w args ∧ laidMetH Tryd.prog Rows.primeWitnessRow.laid w) ∧ sizedMet enc Tryd.prog Tryd.f3 (OpenSpec.ofChange Rows.primeWitnessSpec) false w args) (Rows.primeWitnessSpec.post enc Tryd.prog Tryd.f3 false true false false) := by
  refine returnsInHanded_of_change_and (C := Tryd.checked) (X := fun w _ => laidMetH Tryd.prog Rows.primeWitnessRow.laid w) (fun _ _ _ hh h => h.of_heap hh) own started (by kernel_rfl) Tryd.func3
    (ChangeSpec.witness_shaped (enc := enc) (C := Tryd.checked) (os := os) (X := fun w _ => laidMetH Tryd.prog Rows.primeWitnessRow.laid w) false (World.laidAll Tryd.prog os Rows.primeWitnessRow.laid) #[.int .u64 0, .int .u64 0] 8 (World.laidAll_os _ _ _)
      (World.shaped_of_ZipB (by kernel_rfl) (by kernel_rfl)) (by kernel_rfl) (by kernel_rfl) (by kernel_rfl)
      (by rw [MakeChecks.laidMetH_plain _ _ _ (by kernel_rfl)]; exact laidMet_laidAll _ (by kernel_rfl) (by kernel_rfl))) ?_
  intro W base args ds gs before hval0 hW hcnd _ hL _
  have hT := tab_of_laid hL
  have hval : ∀ (j : Nat) t v, Tryd.f3.params[j]? = some t → args[j]? = some v → Value.okWide Tryd.prog W .any base t v := hval0
  have hW' := hW
  obtain ⟨p, q, hA0, hV, rfl, hfz, hnd⟩ := hW
  have hA : DataW.TrodAll enc Tryd.prog W 0 (fun _ => true) true Tryd.f3.params.toList args.toList ds p := hA0
  rw [Tryd.params3] at hA hval
  obtain ⟨v0, vs0, d0, ds0, p0, q0, hargs, rfl, rfl, h0, r0⟩ := trodAll_cons hA
  obtain ⟨v1, vs1, d1, ds1, p1, q1, rfl, rfl, rfl, h1, r1⟩ := trodAll_cons r0
  obtain ⟨rfl, rfl, rfl⟩ := trodAll_nil r1
  obtain rfl : args = #[v0, v1] := by cases args; simp_all
  obtain ⟨rfl, rfl⟩ := trodVars_none hV
  obtain ⟨a0, rfl, rfl, rfl, w0⟩ := open_int Tryd.underlying22 (hval 0 22 v0 rfl rfl) h0
  obtain ⟨a1, rfl, rfl, rfl, w1⟩ := open_int Tryd.underlying22 (hval 1 22 v1 rfl rfl) h1
  clear hA0 hval0
  refine (F.windbreaklaw05_PrimeWitness.walk Pure.PrimeWitness a0 a1 W hT w0 w1).mono fun e W' ⟨he, bel⟩ => ?_
  subst he
  exact ⟨_, rfl, _, _, _, [], _, [], hW', trodAll_mk1 (shut_bool Tryd.underlying4 _), (trodAll_cons_mk (shut_int Tryd.underlying22 w0) (trodAll_cons_mk (shut_int Tryd.underlying22 w1) trodAll_mk0)), rfl, bel.frame _, fun h => by cases h⟩
theorem over : Rows.primeWitnessRow.holds Tryd.pinned (OpenSpec.ofChange Rows.primeWitnessSpec) :=
  OpenClaim.holds_of_wide 3 Tryd.f3 rfl rfl rfl rfl rfl rfl rfl ⟨rfl, rfl, rfl, rfl, rfl⟩ rfl rfl rfl rfl rfl (by kernel_rfl) Tryd.func3 (by kernel_rfl)
    (of_decide_eq_true (by kernel_rfl)) (by unfold Func.isWrapper; first | (rw [if_pos (by decide +kernel)]; kernel_rfl) | (rw [if_neg (by decide +kernel)]; exact ⟨rfl, rfl⟩))
    (fun os started H enc _ => lifted os started H enc)
theorem proved : Rows.PrimeWitnessCardSaid :=
  Claim7.holds_tied_plain_at .later [] [.data] true (true, "0d15b7b8f517a33b5650c3a81c7fc2e77122bddb66566128ed9fc30394f7386e") false over (fun _ h => by cases h) (by kernel_rfl) (fun _ h => by cases h) primeWitness_row_tie rfl ⟨rfl, rfl⟩ (by kernel_rfl) rfl
    (fun f fn hf hfn => by
      obtain rfl : f = 3 := Option.some.inj ((show Tryd.prog.funcNamed "windbreak/windbreaklaw05.PrimeWitness" = some 3 by kernel_rfl).symm.trans hf) |>.symm
      obtain rfl : fn = Tryd.f3 := (Option.some.inj (Tryd.func3.symm.trans hfn)).symm
      exact ⟨by kernel_rfl, fun j t ht => by
        rw [Tryd.params3] at ht
        have hm : t ∈ [22, 22] := by simpa using Array.mem_of_getElem? ht
        have hall : ([22, 22].all fun u => !Tryd.prog.wantsStandIn u) = true := by kernel_rfl
        exact (show Tryd.prog.wantsStandIn t = false by simpa using List.all_eq_true.1 hall t hm)⟩)
    (by kernel_rfl)
#print axioms proved
end Go.Proofs.YtgeanpnkllnipaaDoor.primeWitness
namespace Go.Proofs.YtgeanpnkllnipaaDoor
theorem primeWitness_holds : Rows.PrimeWitnessCardSaid := primeWitness.proved
end Go.Proofs.YtgeanpnkllnipaaDoor
end
