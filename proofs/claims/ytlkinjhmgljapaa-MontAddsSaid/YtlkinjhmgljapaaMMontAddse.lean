/- Proved: the law MontAdds of layer 2: a power to a sum is the product of the powers; for every input, without a condition. -/
import Derived.Test.YtlkinjhmgljapaaMMontAddsd
import Derived.SizedLaws
import Derived.ChangeSlices
import Derived.Test.YtlkinjhmgljapaaRows
import Derived.WalkKit
import Derived.ProofKit
import Derived.OpenShut
import Derived.ShutString
import Derived.ChangeOld
import Derived.Below
section
namespace Go.Proofs.Ytlkinjhmgljapaa.Z
open Go.RowKit Go.Proofs.Ytlkinjhmgljapaa.F Go.Proofs.YtlkinjhmgljapaaW.PrintWords
set_option linter.unusedSimpArgs false
set_option linter.unusedVariables false
theorem ref_Times_ev (A B M : Nat) (hA : A < b64 ^ 64) (hB : B < b64 ^ 64) (hAB : A * B < b64 ^ 64) (hM : 0 < M) (hM1 : M < b64 ^ 64) : Evt (fun k => windbreakref02_Times.f k (limbs A) (limbs B) (limbs M)) (limbs (A * B % M)) := by
  unfold windbreakref02_Times.f
  have m := ref_Mul_ev (limbs A) (limbs B) (lmax hA) (lmax hB) (dig_limbs' _) (dig_limbs' _)
  have e : mulW (limbs A) (limbs B) = (limbs (A * B), 0) := by
    unfold mulW toldV
    rw [if_pos ⟨right_limbs' hA, right_limbs' hB⟩, num_limbs, num_limbs, if_pos hAB]
  rw [e] at m
  refine Evt.bind m ?_
  have d := ref_Rest_ev (limbs (A * B)) (limbs M) (lmax hAB) (lmax hM1) (dig_limbs' _) (dig_limbs' _)
  unfold divV at d
  rw [if_pos ⟨right_limbs' hAB, right_limbs' hM1⟩, num_limbs, num_limbs, if_neg (by omega)] at d
  exact Evt.bind d (Evt.pure _)
theorem bitW_limbs {E : Nat} (hE : E < b64 ^ 64) (i : Nat) : bitW (limbs E) (i : Int) = E.testBit i := by
  have hb : b64 = 2 ^ 64 := rfl
  unfold bitW
  rw [right_limbs' hE, Int.toNat_natCast, limb_at (dig_limbs' _) (toD_can b64_two E), num_limbs]
  have e1 : ((((E / b64 ^ (i / 64) % b64 : Nat) : Int) / 2 ^ (i % 64)) % 2 == 1) = E.testBit i := by
    have h1 : (((E / b64 ^ (i / 64) % b64 : Nat) : Int) / 2 ^ (i % 64)) % 2 = ((E / b64 ^ (i / 64) % b64 / 2 ^ (i % 64) % 2 : Nat) : Int) := by simp
    have h2 : (E / b64 ^ (i / 64) % b64).testBit (i % 64) = E.testBit i := by
      rw [hb, Nat.testBit_mod_two_pow, ← Nat.pow_mul, Nat.testBit_div_two_pow]
      have : i % 64 < 64 := Nat.mod_lt _ (by omega)
      simp only [this, decide_true, Bool.true_and]
      congr 1
      omega
    rw [h1, ← h2, Nat.testBit_eq_decide_div_mod_eq]
    by_cases h3 : E / b64 ^ (i / 64) % b64 / 2 ^ (i % 64) % 2 = 1
    · rw [h3]; rfl
    · simp only [h3, decide_false]
      have : E / b64 ^ (i / 64) % b64 / 2 ^ (i % 64) % 2 = 0 := by omega
      rw [this]; rfl
  rw [e1]
  by_cases h : ((i : Int) / 64 < ((limbs E).length : Int))
  · have h0 : (0 : Int) ≤ (i : Int) := by omega
    simp [h, h0]
  · have hl : (limbs E).length ≤ i / 64 := by omega
    have h4 : E < 2 ^ i := by
      have h5 := toD_lt_pow b64_two E
      refine Nat.lt_of_lt_of_le h5 ?_
      have h6 : (b64 : Nat) ^ (limbs E).length ≤ b64 ^ (i / 64) := Nat.pow_le_pow_right (by decide) hl
      refine Nat.le_trans h6 ?_
      rw [hb, ← Nat.pow_mul]
      exact Nat.pow_le_pow_right (by omega) (by omega)
    rw [Nat.testBit_lt_two_pow h4]
    simp
theorem bl_limb {E j : Nat} (h : E < b64 ^ j) : bl E ≤ 64 * j := by
  have hb2 : (2 : Nat) ^ 64 = b64 := rfl
  exact bl_le (by rw [Nat.pow_mul, hb2]; exact h)
theorem pow8_mul {A B : Nat} (hA : A < b64 ^ 8) (hB : B < b64 ^ 8) : A * B < b64 ^ 64 := by
  have h1 : A * B < b64 ^ 8 * b64 ^ 8 := Nat.mul_lt_mul'' hA hB
  rw [← Nat.pow_add] at h1
  exact Nat.lt_of_lt_of_le h1 (pow64_mono (by omega))
end Go.Proofs.Ytlkinjhmgljapaa.Z
end
section
namespace Go.Proofs.Ytlkinjhmgljapaa.Z
open Go.RowKit Go.Proofs.Ytlkinjhmgljapaa.F Go.Proofs.YtlkinjhmgljapaaW.PrintWords
set_option linter.unusedSimpArgs false
set_option linter.unusedVariables false
theorem product_of_mul {n x y X : List Int} {minus : Int} (h : Evt (fun k => mont_Mul.f k n minus x y) (X, 0)) : Evt (fun k => mont_product.f k n x y minus) X := by
  obtain ⟨m, hm⟩ := h
  refine ⟨m, fun k hk => ?_⟩
  have h := hm k hk
  simp only [mont_Mul.f] at h
  obtain ⟨b, _, h⟩ := Option.bind_eq_some_iff.mp h
  cases b with
  | true =>
    rw [if_pos rfl] at h
    obtain ⟨r, hr, h⟩ := Option.bind_eq_some_iff.mp h
    simp only [Option.some.injEq, Prod.mk.injEq, and_true] at h
    show mont_product.f k n x y minus = some X
    rw [hr, h]
  | false =>
    rw [if_neg (by simp)] at h
    simp at h
def fl (n : List Int) (A x : Nat) : List Int := limbs (formN n (A ^ x))
def powL (n : List Int) (A c : Nat) : List (List Int) := (List.range c).map (fl n A)
theorem powL_at {n : List Int} {A c i : Nat} (h : i < c) : (powL n A c).getD i [] = fl n A i := by
  unfold powL
  rw [List.getD_eq_getElem?_getD, List.getElem?_map, List.getElem?_range h]
  rfl
theorem powL_len (n : List Int) (A c : Nat) : (powL n A c).length = c := by simp [powL]
section
variable {n : List Int} (h : mayM n = true) (dn : Dig (b64 : Int) n)
include h dn
theorem prod_form_ev (A B : Nat) : Evt (fun k => mont_product.f k n (limbs (formN n A)) (limbs (formN n B)) (mont_minus n)) (limbs (formN n (A * B))) := product_of_mul (mont_form_ev h dn A B)
theorem prod_fl_ev (A x y : Nat) : Evt (fun k => mont_product.f k n (fl n A x) (fl n A y) (mont_minus n)) (fl n A (x + y)) := by
  have e := prod_form_ev h dn (A ^ x) (A ^ y)
  rw [← Nat.pow_add] at e
  exact e
theorem pows_ev (A m : Nat) : ∀ c, 0 < c → Evt (fun k => mont_Exp.pows k n (mont_minus n) (fl n A 1) m (powL n A c)) (powL n A (c + m)) := by
  induction m with
  | zero =>
    intro c hc
    simp only [mont_Exp.pows]
    exact Evt.pure _
  | succ m ih =>
    intro c hc
    simp only [mont_Exp.pows]
    rw [powL_len, powL_at (by omega)]
    refine Evt.bind (prod_fl_ev h dn A (c - 1) 1) ?_
    rw [show c - 1 + 1 = c from by omega]
    have e : powL n A c ++ [fl n A c] = powL n A (c + 1) := by
      unfold powL
      rw [List.range_succ, List.map_append]
      rfl
    rw [e, show c + (m + 1) = (c + 1) + m from by omega]
    exact ih (c + 1) (by omega)
theorem bits_ev {E : Nat} (hE : E < b64 ^ 64) (A j : Nat) (hj : j ≤ 1000) (m : Nat) : ∀ (x : Nat) (d : Int), m ≤ 4 →
    Evt (fun k => mont_Exp.bits k n (mont_minus n) (limbs E) (j + 1) m (fl n A x) d) (fl n A (x * 2 ^ m), d + ((E / 2 ^ (4 * j) % 2 ^ m : Nat) : Int)) := by
  induction m with
  | zero =>
    intro x d _
    simp only [mont_Exp.bits]
    exact (Evt.pure _).congr (fun k => rfl) (by simp [Nat.mod_one])
  | succ m ih =>
    intro x d hm
    simp only [mont_Exp.bits]
    refine Evt.bind (prod_fl_ev h dn A x x) ?_
    have hi : (((j + 1 : Nat) : Int) * 4 - 1 - (3 - (m : Int))) = ((4 * j + m : Nat) : Int) := by omega
    rw [hi, nat_Bit_eq (limbs E) _ (lmax hE) (dig_limbs' _) (by omega), show bitV (limbs E) ((4 * j + m : Nat) : Int) = bitW (limbs E) ((4 * j + m : Nat) : Int) from rfl, bitW_limbs hE]
    simp only [Option.bind_some]
    refine (ih (x + x) _ (by omega)).congr (fun k => rfl) ?_
    have e1 : (x + x) * 2 ^ m = x * 2 ^ (m + 1) := by
      rw [Nat.pow_succ, ← Nat.two_mul, Nat.mul_comm 2 x, Nat.mul_assoc, Nat.mul_comm 2]
    have e2 : E / 2 ^ (4 * j) % 2 ^ (m + 1) = E / 2 ^ (4 * j) % 2 ^ m + 2 ^ m * (E / 2 ^ (4 * j) / 2 ^ m % 2) := by
      rw [Nat.pow_succ, Nat.mod_mul]
    have e3 : E.testBit (4 * j + m) = decide (E / 2 ^ (4 * j) / 2 ^ m % 2 = 1) := by
      rw [Nat.testBit_eq_decide_div_mod_eq, Nat.pow_add, Nat.div_div_eq_div_mul]
    have hlt : E / 2 ^ (4 * j) / 2 ^ m % 2 < 2 := Nat.mod_lt _ (by omega)
    rw [e1, e2, e3]
    generalize E / 2 ^ (4 * j) / 2 ^ m % 2 = b at hlt
    have hb : b = 0 ∨ b = 1 := by omega
    rcases hb with rfl | rfl
    · simp
    · simp
      omega
theorem outs_ev {E : Nat} (hE : E < b64 ^ 64) (A : Nat) (j : Nat) : j ≤ 1000 →
    Evt (fun k => mont_Exp.outs k n (mont_minus n) (limbs E) (powL n A 16) j (fl n A (E / 2 ^ (4 * j)))) (fl n A E) := by
  induction j with
  | zero =>
    intro _
    simp only [mont_Exp.outs]
    exact (Evt.pure _).congr (fun k => rfl) (by simp)
  | succ j ih =>
    intro hj
    simp only [mont_Exp.outs]
    refine Evt.bind (bits_ev h dn hE A j (by omega) 4 (E / 2 ^ (4 * (j + 1))) 0 (Nat.le_refl _)) ?_
    have hd : E / 2 ^ (4 * j) % 2 ^ 4 < 16 := Nat.mod_lt _ (by decide)
    have e1 : E / 2 ^ (4 * (j + 1)) * 2 ^ 4 + E / 2 ^ (4 * j) % 2 ^ 4 = E / 2 ^ (4 * j) := by
      rw [show 4 * (j + 1) = 4 * j + 4 from by omega, Nat.pow_add, ← Nat.div_div_eq_div_mul, Nat.mul_comm]
      exact Nat.div_add_mod _ _
    have e2 : (0 + ((E / 2 ^ (4 * j) % 2 ^ 4 : Nat) : Int)).toNat = E / 2 ^ (4 * j) % 2 ^ 4 := by omega
    have p := prod_fl_ev h dn A (E / 2 ^ (4 * (j + 1)) * 2 ^ 4) (E / 2 ^ (4 * j) % 2 ^ 4)
    rw [e1, ← powL_at (n := n) (A := A) hd] at p
    simp only
    rw [e2]
    exact Evt.bind p (ih (by omega))
theorem mont_Exp_ev {a e : List Int} (ha : a.length ≤ maxLen) (da : Dig (b64 : Int) a) (he : e.length ≤ maxLen) (de : Dig (b64 : Int) e) :
    Evt (fun k => mont_Exp.f k n (limbs (b64 ^ (1 * n.length) % num n)) (limbs (b64 ^ (2 * n.length) % num n)) (mont_minus n) a e) (if belowB n a = true ∧ rightB e = true ∧ e.length ≤ 8 then (limbs (num a ^ num e % num n), 0) else ([], 1)) := by
  obtain ⟨h1, h2, h3, h4, h5⟩ := mayM_parts dn h
  obtain ⟨n1, n2, n3⟩ := mayM_big dn h
  unfold mont_Exp.f
  have hb : Evt (fun k => mont_below.f k n [a]) (belowB n a) := by
    simp only [mont_below.f]
    refine Evt.bind (below_one_ev h1 (by simp only [maxLen]; omega) dn ha da) ?_
    cases belowB n a with
    | false => exact Evt.ite_neg (by simp) (Evt.pure _)
    | true => exact Evt.ite_pos rfl (Evt.pure _)
  refine Evt.bind hb ?_
  rw [nat_Right_eq he]
  simp only [Option.bind_some]
  by_cases hc : belowB n a = true ∧ rightB e = true ∧ e.length ≤ 8
  · rw [if_pos hc]
    refine Evt.ite_pos hc ?_
    obtain ⟨c1, c2, c3⟩ := hc
    obtain ⟨a1, a2, a3⟩ := below_parts da c1
    have f1 := product_of_mul (X := fl n (num a) 1) (by
      have m := mont_in_ev h dn ha da
      rw [if_pos c1] at m
      refine m.congr (fun k => rfl) ?_
      unfold fl formN
      rw [Nat.pow_one])
    refine Evt.bind f1 ?_
    have o1 : limbs (b64 ^ (1 * n.length) % num n) = fl n (num a) 0 := by
      unfold fl formN
      rw [Nat.pow_zero, Nat.one_mul, Nat.one_mul, b64_pow2]
    rw [o1]
    have p := pows_ev h dn (num a) 15 1 (by omega)
    refine Evt.bind p ?_
    have hz := nat_Bits_ev e he de
    rw [bitsV_bl de c2] at hz
    refine Evt.bind hz ?_
    have hE : num e < b64 ^ 64 := num_lt_p de (by omega)
    have hbl := bl_limb (E := num e) (j := 8) (Nat.lt_of_lt_of_le (num_lt de) (Nat.pow_le_pow_right (by decide) c3))
    refine Evt.ite_pos ⟨by omega, by omega⟩ ?_
    rw [Int.toNat_natCast]
    have o := outs_ev h dn hE (num a) ((bl (num e) + 3) / 4) (by omega)
    have z0 : num e / 2 ^ (4 * ((bl (num e) + 3) / 4)) = 0 := Nat.div_eq_of_lt (Nat.lt_of_lt_of_le (bl_lt _) (Nat.pow_le_pow_right (by omega) (by omega)))
    rw [z0, limbs_num de ((rightB_iff e).1 c2).2] at o
    refine Evt.bind o ?_
    exact Evt.bind (product_of_mul (mont_forth_ev h dn (num a ^ num e))) (Evt.pure _)
  · rw [if_neg hc]
    exact Evt.ite_neg hc (Evt.pure _)
end
end Go.Proofs.Ytlkinjhmgljapaa.Z
end
section
namespace Go.Proofs.Ytlkinjhmgljapaa.Pure
open Go.RowKit Go.Proofs.Ytlkinjhmgljapaa.F Go.Proofs.Ytlkinjhmgljapaa.Z
set_option linter.unusedSimpArgs false
set_option linter.unusedVariables false
theorem MontAdds : windbreaklaw02_MontAdds.Pure := by
  rintro n a e f ⟨hl, hw⟩ ⟨ha, hwa⟩ ⟨he, hwe⟩ ⟨hf, hwf⟩
  apply Evt.get
  unfold windbreaklaw02_MontAdds.f
  have dn := dig_of_wf hw
  have da := dig_of_wf hwa
  have de := dig_of_wf hwe
  have df := dig_of_wf hwf
  refine Evt.bind (fresh_ev hl dn) ?_
  by_cases h : mayM n = true
  · rw [if_pos h]
    obtain ⟨n1, n2, n3⟩ := mayM_big dn h
    obtain ⟨g1, g2, g3, g4, g5⟩ := mayM_parts dn h
    have n6 : b64 ^ 8 ≤ b64 ^ 64 := pow64_mono (by omega)
    refine Evt.bind (ref_Add_ev e f he hf de df) ?_
    refine Evt.bind (mont_Exp_ev h dn ha da he de) ?_
    refine Evt.bind (mont_Exp_ev h dn ha da hf df) ?_
    by_cases hs : (rightB e = true ∧ rightB f = true) ∧ num e + num f < b64 ^ 64
    · have es : addW e f = (limbs (num e + num f), 0) := by
        unfold addW toldV
        rw [if_pos hs.1, if_pos hs.2]
      rw [es]
      refine Evt.bind (mont_Exp_ev h dn ha da (lmax hs.2) (dig_limbs' _)) ?_
      by_cases c1 : belowB n a = true
      · by_cases c2 : e.length ≤ 8
        · by_cases c3 : f.length ≤ 8
          · rw [if_pos ⟨c1, hs.1.1, c2⟩, if_pos ⟨c1, hs.1.2, c3⟩]
            by_cases c4 : (limbs (num e + num f)).length ≤ 8
            · rw [if_pos ⟨c1, right_limbs' hs.2, c4⟩, num_limbs]
              refine Evt.ite_pos ⟨rfl, rfl, rfl, c4⟩ ?_
              have m1 : num a ^ num e % num n < num n := Nat.mod_lt _ (by omega)
              have m2 : num a ^ num f % num n < num n := Nat.mod_lt _ (by omega)
              have t := ref_Times_ev (num a ^ num e % num n) (num a ^ num f % num n) (num n) (by omega) (by omega) (pow8_mul (by omega) (by omega)) (by omega) (by omega)
              rw [limbs_num dn ((rightB_iff n).1 g1).2, ← Nat.mul_mod, ← Nat.pow_add] at t
              refine Evt.bind t ?_
              have m3 : num a ^ (num e + num f) % num n < num n := Nat.mod_lt _ (by omega)
              refine Evt.bind (same_ev _ _ (lmax (by omega))) ?_
              refine Evt.ite_pos ⟨rfl, rfl⟩ ?_
              exact (Evt.pure _).congr (fun k => rfl) (by simp)
            · exact Evt.ite_neg (fun x => c4 x.2.2.2) (Evt.pure _)
          · rw [if_neg (fun (x : belowB n a = true ∧ rightB f = true ∧ f.length ≤ 8) => c3 x.2.2)]
            exact Evt.ite_neg (fun x => absurd x.2.1 (by decide)) (Evt.pure _)
        · rw [if_neg (fun (x : belowB n a = true ∧ rightB e = true ∧ e.length ≤ 8) => c2 x.2.2)]
          exact Evt.ite_neg (fun x => absurd x.1 (by decide)) (Evt.pure _)
      · rw [if_neg (fun (x : belowB n a = true ∧ rightB e = true ∧ e.length ≤ 8) => c1 x.1)]
        exact Evt.ite_neg (fun x => absurd x.1 (by decide)) (Evt.pure _)
    · have es : (addW e f).2 ≠ 0 ∧ (addW e f).1 = [] := by
        unfold addW toldV
        by_cases h1 : rightB e = true ∧ rightB f = true
        · rw [if_pos h1, if_neg (fun x => hs ⟨h1, x⟩)]
          exact ⟨by decide, rfl⟩
        · rw [if_neg h1]
          exact ⟨by decide, rfl⟩
      rw [es.2]
      refine Evt.bind (mont_Exp_ev h dn ha da (by simp) Dig.nil) ?_
      exact Evt.ite_neg (fun x => es.1 x.2.2.1) (Evt.pure _)
  · rw [if_neg h]
    exact Evt.pure _
end Go.Proofs.Ytlkinjhmgljapaa.Pure
end
section
namespace Go.Proofs.YtlkinjhmgljapaaW.PrintWords
open Go.ChangeShapes Go.WideShapes
end Go.Proofs.YtlkinjhmgljapaaW.PrintWords
end
section
namespace Go.Proofs.Ytlkinjhmgljapaa.montAdds
open Go.ChangeShapes Go.WideShapes Go.ChangeAt Go.RowKit Go.Proofs.Ytlkinjhmgljapaa.F Go.Proofs.YtlkinjhmgljapaaW.PrintWords
set_option linter.unusedSimpArgs false
open Go.ChangeMaps (open_string shut_string)
set_option linter.unusedVariables false
theorem own : ownKnob Try.prog.godebug = none := by kernel_rfl
theorem laidOut : laidOutB Try.prog = true := by kernel_rfl
theorem okWide_array {P : Program} {w : World} {r : Reach} {base : Nat} {t : TypeId} {v : Value} {n : Nat} {e : TypeId} (ht : P.underlying t = some (.array n e)) (h : Value.okWide P w r base t v) : ∃ cs, v = .agg cs ∧ cs.size = P.cellsOf t := by
  simp only [Value.okWide, ht] at h
  obtain ⟨cs, h1, h2, _⟩ := h
  exact ⟨cs, h1, h2⟩
set_option maxRecDepth 100000 in
theorem lifted (os : Os) (started : os.Started) (H : Type) (enc : TypeId × Value → H) :
    ReturnsInHanded {} Try.checked os 8 .any (Rows.montAddsSpec.pre6 enc Try.prog Try.f8 Rows.montAddsRow.domain false) (Rows.montAddsSpec.post enc Try.prog Try.f8 false true false false) := by
  refine returnsInHanded_of_change_sized (C := Try.checked) own started (by kernel_rfl) Try.func8
    (ChangeSpec.witness6 (enc := enc) (C := Try.checked) false ⟨#[], #[.slice none 0 0, .slice none 0 0, .agg #[.slice none 0 0, .slice none 0 0]], []⟩ 8 (by kernel_rfl) (by kernel_rfl) (by kernel_rfl) (by kernel_rfl)) ?_
  intro W base args ds gs before hval0 hW hcnd hsz0 _
  have hsz : (DataW.weightsEach Try.prog (Try.f8.params.toList ++ Rows.montAddsSpec.plain.varTypes Try.prog) (ds ++ gs)).all (· ≤ reachBytes) = true := hsz0
  have hval : ∀ (j : Nat) t v, Try.f8.params[j]? = some t → args[j]? = some v → Value.okWide Try.prog W .any base t v := hval0
  have hW' := hW
  obtain ⟨p, q, hA0, hV, rfl, hfz, hnd⟩ := hW
  have hA : DataW.TrodAll enc Try.prog W 0 (fun _ => true) true Try.f8.params.toList args.toList ds p := hA0
  rw [Try.params8] at hA hval hsz
  obtain ⟨v0, vs0, d0, ds0, p0, q0, hargs, rfl, rfl, h0, r0⟩ := trodAll_cons hA
  obtain ⟨v1, vs1, d1, ds1, p1, q1, rfl, rfl, rfl, h1, r1⟩ := trodAll_cons r0
  obtain ⟨v2, vs2, d2, ds2, p2, q2, rfl, rfl, rfl, h2, r2⟩ := trodAll_cons r1
  obtain ⟨rfl, rfl, rfl⟩ := trodAll_nil r2
  obtain rfl : args = #[v0, v1, v2] := by cases args; simp_all
  obtain ⟨rfl, rfl⟩ := trodVars_none hV
  obtain ⟨a0, len0, cap0, rfl⟩ := okWide_slice Try.underlying23 (hval 0 23 v0 rfl rfl)
  have k0 := h0
  have lt0 : ∀ x ∈ p0, x.block < W.heap.size := by obtain ⟨m, hm⟩ := k0; exact DataW.trod_lt m _ _ _ hm
  obtain ⟨m0, hm0⟩ := h0
  obtain ⟨x0, hK0, ok0⟩ := (Opens.slice Try.underlying23 (by kernel_rfl) (Opens.int Try.underlying50)) enc W true m0 _ _ hm0
  obtain ⟨a1, len1, cap1, rfl⟩ := okWide_slice Try.underlying23 (hval 1 23 v1 rfl rfl)
  have k1 := h1
  have lt1 : ∀ x ∈ p1, x.block < W.heap.size := by obtain ⟨m, hm⟩ := k1; exact DataW.trod_lt m _ _ _ hm
  obtain ⟨m1, hm1⟩ := h1
  obtain ⟨x1, hK1, ok1⟩ := (Opens.slice Try.underlying23 (by kernel_rfl) (Opens.int Try.underlying50)) enc W true m1 _ _ hm1
  obtain ⟨cs2, rfl, _⟩ := okWide_array Try.underlying35 (hval 2 35 v2 rfl rfl)
  have k2 := h2
  have lt2 : ∀ x ∈ p2, x.block < W.heap.size := by obtain ⟨m, hm⟩ := k2; exact DataW.trod_lt m _ _ _ hm
  obtain ⟨m2, hm2⟩ := h2
  obtain ⟨x2, hK2, ok2⟩ := (Opens.array2 Try.underlying35 (by kernel_rfl) (by kernel_rfl) rfl (Opens.slice Try.underlying23 (by kernel_rfl) (Opens.int Try.underlying50))) enc W true m2 _ _ hm2
  clear hA0 hval0 hsz0 hsz
  refine (F.windbreaklaw02_MontAdds.row Pure.MontAdds W a0 len0 cap0 x0 hK0 ok0 a1 len1 cap1 x1 hK1 ok1 cs2 x2 hK2 ok2).mono fun e W' ⟨he, bel⟩ => ?_
  subst he
  exact ⟨_, rfl, _, _, _, [], _, [], hW', trodAll_mk1 (shut_bool Try.underlying4 _), (trodAll_cons_mk (Below.trod laidOut (by kernel_rfl) (of_decide_eq_true (by kernel_rfl)) k0 bel lt0) (trodAll_cons_mk (Below.trod laidOut (by kernel_rfl) (of_decide_eq_true (by kernel_rfl)) k1 bel lt1) (trodAll_cons_mk (Below.trod laidOut (by kernel_rfl) (of_decide_eq_true (by kernel_rfl)) k2 bel lt2) trodAll_mk0))), rfl, bel.frame _, fun h => by cases h⟩
theorem over : Rows.montAddsRow.holds Try.pinned (OpenSpec.ofChange Rows.montAddsSpec) :=
  OpenClaim.holds_of_wide 8 Try.f8 rfl rfl rfl rfl rfl rfl rfl ⟨rfl, rfl, rfl, rfl, rfl⟩ rfl rfl rfl rfl rfl (by kernel_rfl) Try.func8 (by kernel_rfl)
    (of_decide_eq_true (by kernel_rfl)) (by unfold Func.isWrapper; first | (rw [if_pos (by decide +kernel)]; kernel_rfl) | (rw [if_neg (by decide +kernel)]; exact ⟨rfl, rfl⟩))
    (fun os started H enc _ => lifted os started H enc)
theorem proved : Rows.MontAddsSaid := over
#print axioms proved
end Go.Proofs.Ytlkinjhmgljapaa.montAdds
namespace Go.Proofs.Ytlkinjhmgljapaa
theorem montAdds_holds : Rows.MontAddsSaid := montAdds.proved
end Go.Proofs.Ytlkinjhmgljapaa
end
