/- Proved: the law MontPowers of layer 2: any power by any odd modulus is the document's; for every input, without a condition. -/
import Derived.Test.YtlkinjhmgljapaaMMontPowersd
import Derived.SizedLaws
import Derived.ChangeSlices
import Derived.Test.YtlkinjhmgljapaaRows
import Derived.WalkKit
import Derived.ProofKit
import Derived.OpenShut
import Derived.ShutString
import Derived.ChangeOld
import Derived.Below
section
namespace Go.Proofs.Ytlkinjhmgljapaa.Z
open Go.RowKit Go.Proofs.Ytlkinjhmgljapaa.F Go.Proofs.YtlkinjhmgljapaaW.PrintWords
set_option linter.unusedSimpArgs false
set_option linter.unusedVariables false
theorem nat_Div_ev (a b : List Int) (ha : a.length ≤ maxLen) (hb : b.length ≤ maxLen) (da : Dig (b64 : Int) a) (db : Dig (b64 : Int) b) : Evt (fun k => nat_Div.f k a b) (divV a b) := by
  unfold nat_Div.f divV
  rw [nat_right_eq _ (by intro l hl; simp at hl; rcases hl with rfl | rfl <;> assumption)]
  simp only [Option.bind_some, List.all_cons, List.all_nil, Bool.and_true, Bool.and_eq_true]
  by_cases h : rightB a = true ∧ rightB b = true
  · rw [if_pos h]
    refine Evt.ite_pos h ?_
    obtain ⟨h1, c1⟩ := (rightB_iff a).1 h.1
    obtain ⟨h2, c2⟩ := (rightB_iff b).1 h.2
    have hz := num_zero_iff db c2
    by_cases h0 : b.length = 0
    · rw [if_pos (hz.2 h0)]
      exact Evt.ite_pos (by omega) (Evt.pure _)
    · have hnz : num b ≠ 0 := fun e => h0 (hz.1 e)
      rw [if_neg hnz]
      refine Evt.ite_neg (by omega) ?_
      refine Evt.bind (nat_compare_ev a b da db c1 c2 (by omega)) ?_
      by_cases hlt : num a < num b
      · refine Evt.ite_pos (by unfold cmpN; rw [if_pos hlt]; omega) ?_
        refine Evt.bind (Evt.of (fun _ => clone_ev a (by omega))) ?_
        rw [Nat.div_eq_of_lt hlt, Nat.mod_eq_of_lt hlt, limbs_num da c1]
        rw [show limbs 0 = [] from toD_zero b64]
        exact Evt.pure _
      · refine Evt.ite_neg (by unfold cmpN; rw [if_neg hlt]; split <;> omega) ?_
        by_cases h3 : b.length = 1
        · obtain ⟨x, rfl⟩ : ∃ x, b = [x] := List.length_eq_one_iff.1 h3
          have hx := (Dig.cons.1 db).1
          have hx0 : num [x] = x.toNat := num_one hx.1
          refine Evt.ite_pos (by simp) (Evt.ite_pos (by simp) ?_)
          have hr : rd [x] 0 = x := rfl
          rw [hr]
          rw [hx0] at hnz ⊢
          have hB : (b64 : Int) = 18446744073709551616 := rfl
          rw [hB] at hx
          refine Evt.bind (nat_short_ev a x da (by omega) (by omega) hx.2) ?_
          refine (Evt.bind (nat_Of_ev ((num a % x.toNat : Nat) : Int)) (h := fun t _ => some (limbs (num a / x.toNat), t, (0 : Int))) (Evt.pure _)).congr (fun k => rfl) ?_
          have hm : num a % x.toNat < x.toNat := Nat.mod_lt _ (by omega)
          have dr : Dig (b64 : Int) [((num a % x.toNat : Nat) : Int)] := Dig.cons.2 ⟨by rw [hB]; omega, Dig.nil⟩
          rw [strip_limbs dr, num_one (by omega), Int.toNat_natCast]
        · refine Evt.ite_neg (by omega) ?_
          have hab := num_len_le db c2 da (by omega)
          exact Evt.bind (nat_long_ev a b da db c2 (by omega) hab (by omega)) (h := fun t _ => some (t.1, t.2, (0 : Int))) (Evt.pure _)
  · rw [if_neg h]
    exact Evt.ite_neg h (Evt.pure _)
theorem and_one_m {x : Int} (h0 : 0 ≤ x) (h1 : x < 18446744073709551616) : Go.bits .and .u64 x 1 = x % 2 := bits_mask .u64 64 (by decide) wraps_u64 1 (by decide) x h0 (by omega)
def mayM (n : List Int) : Bool := rightB n && mont_New.ok n
theorem head_dig {n : List Int} (dn : Dig (b64 : Int) n) : 0 ≤ n.getD 0 0 ∧ n.getD 0 0 < 18446744073709551616 := Dig.getD dn (by decide) 0
theorem ref_May_m {n : List Int} (hn : n.length ≤ maxLen) (dn : Dig (b64 : Int) n) : windbreakref02_May.f n = some (mayM n) := by
  obtain ⟨d0, d1⟩ := head_dig dn
  unfold windbreakref02_May.f mayM mont_New.ok
  rw [windbreakref01_Right_eq hn, and_one_m d0 d1, show rd n 0 = n.getD 0 0 from rfl]
  simp only [Option.bind_some]
  rw [Int.tmod_eq_emod_of_nonneg d0]
  generalize n.getD 0 0 = a at d0 d1 ⊢
  generalize n.length = m
  cases rightB n with
  | false => simp
  | true =>
    by_cases h1 : 0 < m
    · by_cases h2 : m ≤ 8
      · by_cases h3 : a % 2 = 1
        · by_cases h4 : m = 1
          · subst h4
            by_cases h5 : a = 1
            · subst h5; simp
            · have : 1 < a := by omega
              simp [h3, h5, this]
          · have h5 : (1 : Int) < (m : Int) := by omega
            have h6 : (m : Int) ≤ 8 := by omega
            have h7 : (0 : Int) < (m : Int) := by omega
            simp [h1, h2, h3, h4, h5, h6, h7]
        · have h6 : (m : Int) ≤ 8 := by omega
          have h7 : (0 : Int) < (m : Int) := by omega
          have h8 : a % 2 = 0 := by omega
          simp [h1, h2, h3, h6, h7, h8]
      · have h6 : ¬ (m : Int) ≤ 8 := by omega
        have h7 : (0 : Int) < (m : Int) := by omega
        simp [h1, h2, h6, h7]
    · have h7 : ¬ (0 : Int) < (m : Int) := by omega
      simp [h1, h7]
theorem pow_facts (m : Nat) (hm : m ≤ 63) : Dig (b64 : Int) (List.replicate m 0 ++ [1]) ∧ rightB (List.replicate m 0 ++ [1]) = true ∧ num (List.replicate m 0 ++ [1]) = b64 ^ m := by
  have hd : Dig (b64 : Int) (List.replicate m 0 ++ [1]) := Dig.append.2 ⟨Dig.replicate (by decide) _, Dig.cons.2 ⟨by decide, Dig.nil⟩⟩
  refine ⟨hd, (rightB_iff _).2 ⟨by simp; omega, fun _ => by simp⟩, ?_⟩
  have h := num_val hd
  rw [val_append, val_replicate] at h
  simp only [val, List.length_replicate, Int.mul_zero, Int.add_zero, Int.zero_add, Int.mul_one] at h
  have : ((b64 : Int)) ^ m = ((b64 ^ m : Nat) : Int) := by simp
  rw [this] at h
  omega
theorem mont_rest_ev {n : List Int} (hr : rightB n = true) (hl8 : n.length ≤ 8) (hn0 : num n ≠ 0) (dn : Dig (b64 : Int) n) (p : Nat) (hp : p ≤ 2) : Evt (fun k => mont_rest.f k n p) (limbs (b64 ^ (p * n.length) % num n)) := by
  unfold mont_rest.f
  have hm : p * n.length ≤ 2 * 8 := Nat.mul_le_mul hp hl8
  obtain ⟨h1, h2, h3⟩ := pow_facts (p * n.length) (by omega)
  have hd := nat_Div_ev (List.replicate (p * n.length) 0 ++ [1]) n (by simp [maxLen]; omega) (by simp only [maxLen]; omega) h1 dn
  unfold divV at hd
  rw [if_pos ⟨h2, hr⟩, if_neg hn0, h3] at hd
  exact Evt.bind hd (h := fun q _ => some q.2.1) (Evt.pure _)
theorem mayM_parts {n : List Int} (dn : Dig (b64 : Int) n) (h : mayM n = true) : rightB n = true ∧ 0 < n.length ∧ n.length ≤ 8 ∧ num n ≠ 0 ∧ mont_New.ok n = true := by
  unfold mayM at h
  obtain ⟨h1, h2⟩ := Bool.and_eq_true_iff.1 h
  have h3 := h2
  unfold mont_New.ok at h3
  simp only [Bool.and_eq_true, decide_eq_true_eq] at h3
  obtain ⟨⟨⟨o1, o2⟩, o3⟩, o4⟩ := h3
  exact ⟨h1, o1, o2, fun e => by have := (num_zero_iff dn ((rightB_iff n).1 h1).2).1 e; omega, h2⟩
theorem mont_New_ev {n : List Int} (hn : n.length ≤ maxLen) (dn : Dig (b64 : Int) n) : Evt (fun k => mont_New.f k n) (if mayM n = true then some (limbs (b64 ^ (1 * n.length) % num n), limbs (b64 ^ (2 * n.length) % num n)) else none) := by
  unfold mont_New.f
  rw [nat_Right_eq hn]
  simp only [Option.bind_some]
  by_cases h : mayM n = true
  · obtain ⟨h1, h2, h3, h4, h5⟩ := mayM_parts dn h
    rw [if_pos h]
    refine Evt.ite_pos ⟨h1, h5⟩ ?_
    refine Evt.bind (mont_rest_ev h1 h3 h4 dn 1 (by omega)) ?_
    exact Evt.bind (mont_rest_ev h1 h3 h4 dn 2 (by omega)) (Evt.pure _)
  · rw [if_neg h]
    refine Evt.ite_neg (fun ⟨a, b⟩ => h ?_) (Evt.pure _)
    unfold mayM
    rw [a, b]
    rfl
theorem fresh_ev {n : List Int} (hn : n.length ≤ maxLen) (dn : Dig (b64 : Int) n) : Evt (fun k => windbreaklaw02_fresh.f k n) (if mayM n = true then (some (limbs (b64 ^ (1 * n.length) % num n), limbs (b64 ^ (2 * n.length) % num n)), true) else (none, true)) := by
  unfold windbreaklaw02_fresh.f
  refine Evt.bind (mont_New_ev hn dn) ?_
  rw [ref_May_m hn dn]
  simp only [Option.bind_some]
  refine (Evt.pure _).congr (fun k => rfl) ?_
  by_cases h : mayM n = true
  · rw [if_pos h, if_pos h, if_pos h]; rfl
  · rw [if_neg h, if_neg h, if_neg h]; rfl
def belowB (n a : List Int) : Bool := rightB a && decide (num a < num n)
theorem cmpN_neg (x y : Nat) : decide (cmpN x y < 0) = decide (x < y) := by
  unfold cmpN
  by_cases h : x < y
  · rw [if_pos h]; simp [h]
  · rw [if_neg h]
    split <;> simp [h]
theorem below_one_ev {n a : List Int} (hnr : rightB n = true) (hn : n.length ≤ maxLen) (dn : Dig (b64 : Int) n) (ha : a.length ≤ maxLen) (da : Dig (b64 : Int) a) : Evt (fun k => mont_below.one k n a) (belowB n a) := by
  unfold mont_below.one belowB
  rw [nat_Right_eq ha]
  simp only [Option.bind_some]
  cases h : rightB a with
  | false => exact Evt.ite_neg (by simp) ((Evt.pure _).congr (fun k => rfl) (by simp))
  | true =>
    refine Evt.ite_pos rfl ?_
    have hc := nat_Cmp_ev a n ha hn da dn
    unfold cmpV at hc
    rw [if_pos ⟨h, hnr⟩] at hc
    refine Evt.bind hc ?_
    exact (Evt.pure _).congr (fun k => rfl) (by rw [cmpN_neg]; simp)
theorem below_two_ev {n x y : List Int} (hnr : rightB n = true) (hn : n.length ≤ maxLen) (dn : Dig (b64 : Int) n) (hx : x.length ≤ maxLen) (dx : Dig (b64 : Int) x) (hy : y.length ≤ maxLen) (dy : Dig (b64 : Int) y) : Evt (fun k => mont_below.f k n [x, y]) (belowB n x && belowB n y) := by
  simp only [mont_below.f]
  refine Evt.bind (below_one_ev hnr hn dn hx dx) ?_
  cases belowB n x with
  | false => exact Evt.ite_neg (by simp) ((Evt.pure _).congr (fun k => rfl) rfl)
  | true =>
    refine Evt.ite_pos rfl ?_
    refine Evt.bind (below_one_ev hnr hn dn hy dy) ?_
    cases belowB n y with
    | false => exact Evt.ite_neg (by simp) ((Evt.pure _).congr (fun k => rfl) rfl)
    | true => exact Evt.ite_pos rfl ((Evt.pure _).congr (fun k => rfl) rfl)
theorem mayM_odd {n : List Int} (dn : Dig (b64 : Int) n) (h : mayM n = true) : n.getD 0 0 % 2 = 1 ∧ num n % 2 = 1 ∧ ((num n % b64 : Nat) : Int) = n.getD 0 0 := by
  obtain ⟨h1, h2, h3, h4, h5⟩ := mayM_parts dn h
  unfold mont_New.ok at h5
  simp only [Bool.and_eq_true, decide_eq_true_eq] at h5
  obtain ⟨⟨⟨_, _⟩, o3⟩, _⟩ := h5
  obtain ⟨d0, d1⟩ := head_dig dn
  rw [and_one_m d0 d1] at o3
  have hv := val_head_m dn (by intro e; rw [e] at h2; simp at h2)
  rw [← num_val dn] at hv
  have hb : (b64 : Int) = 18446744073709551616 := rfl
  have hbn : b64 = 18446744073709551616 := rfl
  rw [hb] at hv
  rw [hbn]
  omega
theorem mont_Mul_ev {n x y : List Int} (h : mayM n = true) (dn : Dig (b64 : Int) n) (hx : x.length ≤ maxLen) (dx : Dig (b64 : Int) x) (hy : y.length ≤ maxLen) (dy : Dig (b64 : Int) y) :
    Evt (fun k => mont_Mul.f k n (mont_minus n) x y) (if (belowB n x && belowB n y) = true then (limbs (montOutN (num n) (64 * n.length) (num x * num y % num n)), 0) else ([], 1)) := by
  obtain ⟨h1, h2, h3, h4, h5⟩ := mayM_parts dn h
  obtain ⟨o1, o2, o3⟩ := mayM_odd dn h
  obtain ⟨m1, m2, m3⟩ := minus_ok o1
  unfold mont_Mul.f
  refine Evt.bind (below_two_ev h1 (by simp only [maxLen]; omega) dn hx dx hy dy) ?_
  by_cases hb : (belowB n x && belowB n y) = true
  · rw [if_pos hb]
    refine Evt.ite_pos hb ?_
    obtain ⟨b1, b2⟩ := Bool.and_eq_true_iff.1 hb
    unfold belowB at b1 b2
    obtain ⟨x1, x2⟩ := Bool.and_eq_true_iff.1 b1
    obtain ⟨y1, y2⟩ := Bool.and_eq_true_iff.1 b2
    have x3 := of_decide_eq_true x2
    have y3 := of_decide_eq_true y2
    refine Evt.bind (mont_product_ev h1 h3 (by omega) o2 dn dx dy x3 y3 (num_len_le dx ((rightB_iff x).1 x1).2 dn (Nat.le_of_lt x3)) (num_len_le dy ((rightB_iff y).1 y1).2 dn (Nat.le_of_lt y3)) ⟨m2, m3⟩ ?_) (Evt.pure _)
    have e1 : ((num n % b64 * (mont_minus n).toNat + 1 : Nat) : Int) = n.getD 0 0 * mont_minus n + 1 := by
      rw [Int.natCast_add, Int.natCast_mul, o3, Int.toNat_of_nonneg m2]
      rfl
    have hbn : b64 = 18446744073709551616 := rfl
    rw [← e1] at m1
    rw [hbn] at m1 ⊢
    omega
  · rw [if_neg hb]
    exact Evt.ite_neg hb (Evt.pure _)
theorem pow64_mono {m : Nat} (h : m ≤ 64) : b64 ^ m ≤ b64 ^ 64 := Nat.pow_le_pow_right (by decide) h
theorem mayM_big {n : List Int} (dn : Dig (b64 : Int) n) (h : mayM n = true) : 1 < num n ∧ num n < b64 ^ 8 ∧ num n % 2 = 1 := by
  obtain ⟨h1, h2, h3, h4, h5⟩ := mayM_parts dn h
  obtain ⟨o1, o2, o3⟩ := mayM_odd dn h
  refine ⟨?_, Nat.lt_of_lt_of_le (num_lt dn) (Nat.pow_le_pow_right (by decide) h3), o2⟩
  have hne : num n ≠ 1 := by
    intro e
    have hc := ((rightB_iff n).1 h1).2
    have e1 := limbs_num dn hc
    rw [e] at e1
    have e2 : limbs 1 = [1] := limbs_one (by decide) (by decide)
    rw [e2] at e1
    rw [← e1] at h5
    exact absurd h5 (by decide)
  omega
theorem below_limbs {n : List Int} {A : Nat} (hA : A < num n) (hn : num n ≤ b64 ^ 64) : belowB n (limbs A) = true := by
  unfold belowB
  rw [right_limbs' (Nat.lt_of_lt_of_le hA hn), num_limbs, decide_eq_true hA]
  rfl
theorem below_parts {n a : List Int} (da : Dig (b64 : Int) a) (h : belowB n a = true) : rightB a = true ∧ num a < num n ∧ a = limbs (num a) := by
  unfold belowB at h
  obtain ⟨h1, h2⟩ := Bool.and_eq_true_iff.1 h
  exact ⟨h1, of_decide_eq_true h2, (limbs_num da ((rightB_iff a).1 h1).2).symm⟩
theorem mont_in_ev {n x : List Int} (h : mayM n = true) (dn : Dig (b64 : Int) n) (hx : x.length ≤ maxLen) (dx : Dig (b64 : Int) x) :
    Evt (fun k => mont_Mul.f k n (mont_minus n) x (limbs (b64 ^ (2 * n.length) % num n))) (if belowB n x = true then (limbs (num x * 2 ^ (64 * n.length) % num n), 0) else ([], 1)) := by
  obtain ⟨n1, n2, n3⟩ := mayM_big dn h
  have n4 : num n ≤ b64 ^ 64 := Nat.le_trans (Nat.le_of_lt n2) (pow64_mono (by omega))
  have hq : b64 ^ (2 * n.length) % num n < num n := Nat.mod_lt _ (by omega)
  have hq2 : belowB n (limbs (b64 ^ (2 * n.length) % num n)) = true := below_limbs hq n4
  have m := mont_Mul_ev (x := x) (y := limbs (b64 ^ (2 * n.length) % num n)) h dn hx dx (lmax (Nat.lt_of_lt_of_le hq n4)) (dig_limbs' _)
  rw [hq2, Bool.and_true, num_limbs] at m
  refine m.congr (fun k => rfl) ?_
  by_cases hb : belowB n x = true
  · rw [if_pos hb, if_pos hb]
    have e := montOutN_unique (n := num n) (r := num x * 2 ^ (64 * n.length) % num n) (x := num x * (b64 ^ (2 * n.length) % num n) % num n) n3 (64 * n.length) (Nat.mod_lt _ (by omega)) (Nat.mod_lt _ (by omega)) (by
      rw [Nat.mod_mod, Nat.mul_mod_mod, Nat.mod_mul_mod, Nat.mul_assoc, ← Nat.pow_add, b64_pow2]
      congr 3
      omega)
    rw [← e]
  · rw [if_neg hb, if_neg hb]
theorem mont_out_ev {n x : List Int} (h : mayM n = true) (dn : Dig (b64 : Int) n) (hx : x.length ≤ maxLen) (dx : Dig (b64 : Int) x) :
    Evt (fun k => mont_Mul.f k n (mont_minus n) x [1]) (if belowB n x = true then (limbs (montOutN (num n) (64 * n.length) (num x)), 0) else ([], 1)) := by
  obtain ⟨n1, n2, n3⟩ := mayM_big dn h
  have n4 : num n ≤ b64 ^ 64 := Nat.le_trans (Nat.le_of_lt n2) (pow64_mono (by omega))
  have h1 : limbs 1 = [1] := limbs_one (by decide) (by decide)
  have hq2 : belowB n (limbs 1) = true := below_limbs n1 n4
  have m := mont_Mul_ev (x := x) (y := limbs 1) h dn hx dx (lmax (Nat.lt_of_lt_of_le n1 n4)) (dig_limbs' _)
  rw [hq2, Bool.and_true, num_limbs, Nat.mul_one, h1] at m
  refine m.congr (fun k => rfl) ?_
  by_cases hb : belowB n x = true
  · rw [if_pos hb, if_pos hb, Nat.mod_eq_of_lt (below_parts dx hb).2.1]
  · rw [if_neg hb, if_neg hb]
def formN (n : List Int) (A : Nat) : Nat := A * 2 ^ (64 * n.length) % num n
theorem form_lt {n : List Int} (hn : 0 < num n) (A : Nat) : formN n A < num n := Nat.mod_lt _ hn
theorem form_mul {n : List Int} (ho : num n % 2 = 1) (A B : Nat) : montOutN (num n) (64 * n.length) (formN n A * formN n B % num n) = formN n (A * B) := by
  have hn : 0 < num n := by omega
  refine (montOutN_unique ho (64 * n.length) (form_lt hn _) (Nat.mod_lt _ hn) ?_).symm
  unfold formN
  rw [Nat.mod_mod, Nat.mod_mul_mod, Nat.mod_mul_mod, Nat.mul_mod_mod]
  congr 1
  generalize 2 ^ (64 * n.length) = R
  rw [Nat.mul_assoc, Nat.mul_assoc, Nat.mul_assoc, Nat.mul_left_comm R B R]
theorem form_out {n : List Int} (ho : num n % 2 = 1) (A : Nat) : montOutN (num n) (64 * n.length) (formN n A) = A % num n := by
  have hn : 0 < num n := by omega
  refine (montOutN_unique ho (64 * n.length) (Nat.mod_lt _ hn) (form_lt hn _) ?_).symm
  unfold formN
  rw [Nat.mod_mod, Nat.mod_mul_mod]
theorem mont_form_ev {n : List Int} (h : mayM n = true) (dn : Dig (b64 : Int) n) (A B : Nat) :
    Evt (fun k => mont_Mul.f k n (mont_minus n) (limbs (formN n A)) (limbs (formN n B))) (limbs (formN n (A * B)), 0) := by
  obtain ⟨n1, n2, n3⟩ := mayM_big dn h
  have n4 : num n ≤ b64 ^ 64 := Nat.le_trans (Nat.le_of_lt n2) (pow64_mono (by omega))
  have hA := form_lt (n := n) (by omega) A
  have hB := form_lt (n := n) (by omega) B
  have m := mont_Mul_ev (x := limbs (formN n A)) (y := limbs (formN n B)) h dn (lmax (Nat.lt_of_lt_of_le hA n4)) (dig_limbs' _) (lmax (Nat.lt_of_lt_of_le hB n4)) (dig_limbs' _)
  rw [below_limbs hA n4, below_limbs hB n4, if_pos (show (true && true) = true from rfl), num_limbs, num_limbs, form_mul n3] at m
  exact m
theorem mont_forth_ev {n : List Int} (h : mayM n = true) (dn : Dig (b64 : Int) n) (A : Nat) :
    Evt (fun k => mont_Mul.f k n (mont_minus n) (limbs (formN n A)) [1]) (limbs (A % num n), 0) := by
  obtain ⟨n1, n2, n3⟩ := mayM_big dn h
  have n4 : num n ≤ b64 ^ 64 := Nat.le_trans (Nat.le_of_lt n2) (pow64_mono (by omega))
  have hA := form_lt (n := n) (by omega) A
  have m := mont_out_ev (x := limbs (formN n A)) h dn (lmax (Nat.lt_of_lt_of_le hA n4)) (dig_limbs' _)
  rw [below_limbs hA n4, if_pos rfl, num_limbs, form_out n3] at m
  exact m
theorem ref2_Below_ev {n a : List Int} (hnr : rightB n = true) (hn : n.length ≤ maxLen) (dn : Dig (b64 : Int) n) (ha : a.length ≤ maxLen) (da : Dig (b64 : Int) a) : Evt (fun k => windbreakref02_Below.f k a n) (belowB n a) := by
  unfold windbreakref02_Below.f belowB
  rw [windbreakref01_Right_eq ha]
  simp only [Option.bind_some]
  cases h : rightB a with
  | false => exact Evt.ite_neg (by simp) ((Evt.pure _).congr (fun k => rfl) (by simp))
  | true =>
    refine Evt.ite_pos rfl ?_
    have hc := ref_Cmp_ev a n ha hn da dn
    unfold cmpW at hc
    rw [if_pos ⟨h, hnr⟩] at hc
    refine Evt.bind hc ?_
    exact (Evt.pure _).congr (fun k => rfl) (by rw [cmpN_neg]; simp)
theorem ref2_Exp_ev {n a e : List Int} (h : mayM n = true) (hn : n.length ≤ maxLen) (dn : Dig (b64 : Int) n) (ha : a.length ≤ maxLen) (da : Dig (b64 : Int) a) (he : e.length ≤ maxLen) (de : Dig (b64 : Int) e) :
    Evt (fun k => windbreakref02_Exp.f k a e n) (if belowB n a = true ∧ rightB e = true ∧ e.length ≤ 8 then (limbs (num a ^ num e % num n), 0) else ([], 1)) := by
  obtain ⟨h1, h2, h3, h4, h5⟩ := mayM_parts dn h
  obtain ⟨n1, n2, n3⟩ := mayM_big dn h
  unfold windbreakref02_Exp.f
  refine Evt.bind (ref2_Below_ev h1 hn dn ha da) ?_
  rw [windbreakref01_Right_eq he]
  simp only [Option.bind_some]
  by_cases c1 : belowB n a = true
  · refine Evt.ite_pos c1 ?_
    by_cases c2 : rightB e = true
    · refine Evt.ite_pos c2 ?_
      by_cases c3 : e.length ≤ 8
      · refine Evt.ite_neg (by omega) ?_
        rw [if_pos ⟨c1, c2, c3⟩]
        obtain ⟨a1, a2, a3⟩ := below_parts da c1
        have h32 : b64 ^ 8 ≤ b64 ^ 32 := Nat.pow_le_pow_right (by decide) (by omega)
        have p := ref_Power_ev (A := num a) (E := num e) (M := num n) (by omega) (num_lt_p de (by omega)) n1 (by omega)
        rw [← a3, limbs_num de ((rightB_iff e).1 c2).2, limbs_num dn ((rightB_iff n).1 h1).2] at p
        exact Evt.bind p (Evt.pure _)
      · rw [if_neg (fun x => c3 x.2.2)]
        exact Evt.ite_pos (by omega) (Evt.pure _)
    · rw [if_neg (fun x => c2 x.2.1)]
      exact Evt.ite_neg c2 (Evt.pure _)
  · rw [if_neg (fun x => c1 x.1)]
    refine Evt.ite_neg c1 (Evt.pure _)
end Go.Proofs.Ytlkinjhmgljapaa.Z
end
section
namespace Go.Proofs.Ytlkinjhmgljapaa.Z
open Go.RowKit Go.Proofs.Ytlkinjhmgljapaa.F Go.Proofs.YtlkinjhmgljapaaW.PrintWords
set_option linter.unusedSimpArgs false
set_option linter.unusedVariables false
theorem product_of_mul {n x y X : List Int} {minus : Int} (h : Evt (fun k => mont_Mul.f k n minus x y) (X, 0)) : Evt (fun k => mont_product.f k n x y minus) X := by
  obtain ⟨m, hm⟩ := h
  refine ⟨m, fun k hk => ?_⟩
  have h := hm k hk
  simp only [mont_Mul.f] at h
  obtain ⟨b, _, h⟩ := Option.bind_eq_some_iff.mp h
  cases b with
  | true =>
    rw [if_pos rfl] at h
    obtain ⟨r, hr, h⟩ := Option.bind_eq_some_iff.mp h
    simp only [Option.some.injEq, Prod.mk.injEq, and_true] at h
    show mont_product.f k n x y minus = some X
    rw [hr, h]
  | false =>
    rw [if_neg (by simp)] at h
    simp at h
def fl (n : List Int) (A x : Nat) : List Int := limbs (formN n (A ^ x))
def powL (n : List Int) (A c : Nat) : List (List Int) := (List.range c).map (fl n A)
theorem powL_at {n : List Int} {A c i : Nat} (h : i < c) : (powL n A c).getD i [] = fl n A i := by
  unfold powL
  rw [List.getD_eq_getElem?_getD, List.getElem?_map, List.getElem?_range h]
  rfl
theorem powL_len (n : List Int) (A c : Nat) : (powL n A c).length = c := by simp [powL]
section
variable {n : List Int} (h : mayM n = true) (dn : Dig (b64 : Int) n)
include h dn
theorem prod_form_ev (A B : Nat) : Evt (fun k => mont_product.f k n (limbs (formN n A)) (limbs (formN n B)) (mont_minus n)) (limbs (formN n (A * B))) := product_of_mul (mont_form_ev h dn A B)
theorem prod_fl_ev (A x y : Nat) : Evt (fun k => mont_product.f k n (fl n A x) (fl n A y) (mont_minus n)) (fl n A (x + y)) := by
  have e := prod_form_ev h dn (A ^ x) (A ^ y)
  rw [← Nat.pow_add] at e
  exact e
theorem pows_ev (A m : Nat) : ∀ c, 0 < c → Evt (fun k => mont_Exp.pows k n (mont_minus n) (fl n A 1) m (powL n A c)) (powL n A (c + m)) := by
  induction m with
  | zero =>
    intro c hc
    simp only [mont_Exp.pows]
    exact Evt.pure _
  | succ m ih =>
    intro c hc
    simp only [mont_Exp.pows]
    rw [powL_len, powL_at (by omega)]
    refine Evt.bind (prod_fl_ev h dn A (c - 1) 1) ?_
    rw [show c - 1 + 1 = c from by omega]
    have e : powL n A c ++ [fl n A c] = powL n A (c + 1) := by
      unfold powL
      rw [List.range_succ, List.map_append]
      rfl
    rw [e, show c + (m + 1) = (c + 1) + m from by omega]
    exact ih (c + 1) (by omega)
theorem bits_ev {E : Nat} (hE : E < b64 ^ 64) (A j : Nat) (hj : j ≤ 1000) (m : Nat) : ∀ (x : Nat) (d : Int), m ≤ 4 →
    Evt (fun k => mont_Exp.bits k n (mont_minus n) (limbs E) (j + 1) m (fl n A x) d) (fl n A (x * 2 ^ m), d + ((E / 2 ^ (4 * j) % 2 ^ m : Nat) : Int)) := by
  induction m with
  | zero =>
    intro x d _
    simp only [mont_Exp.bits]
    exact (Evt.pure _).congr (fun k => rfl) (by simp [Nat.mod_one])
  | succ m ih =>
    intro x d hm
    simp only [mont_Exp.bits]
    refine Evt.bind (prod_fl_ev h dn A x x) ?_
    have hi : (((j + 1 : Nat) : Int) * 4 - 1 - (3 - (m : Int))) = ((4 * j + m : Nat) : Int) := by omega
    rw [hi, nat_Bit_eq (limbs E) _ (lmax hE) (dig_limbs' _) (by omega), show bitV (limbs E) ((4 * j + m : Nat) : Int) = bitW (limbs E) ((4 * j + m : Nat) : Int) from rfl, bitW_limbs hE]
    simp only [Option.bind_some]
    refine (ih (x + x) _ (by omega)).congr (fun k => rfl) ?_
    have e1 : (x + x) * 2 ^ m = x * 2 ^ (m + 1) := by
      rw [Nat.pow_succ, ← Nat.two_mul, Nat.mul_comm 2 x, Nat.mul_assoc, Nat.mul_comm 2]
    have e2 : E / 2 ^ (4 * j) % 2 ^ (m + 1) = E / 2 ^ (4 * j) % 2 ^ m + 2 ^ m * (E / 2 ^ (4 * j) / 2 ^ m % 2) := by
      rw [Nat.pow_succ, Nat.mod_mul]
    have e3 : E.testBit (4 * j + m) = decide (E / 2 ^ (4 * j) / 2 ^ m % 2 = 1) := by
      rw [Nat.testBit_eq_decide_div_mod_eq, Nat.pow_add, Nat.div_div_eq_div_mul]
    have hlt : E / 2 ^ (4 * j) / 2 ^ m % 2 < 2 := Nat.mod_lt _ (by omega)
    rw [e1, e2, e3]
    generalize E / 2 ^ (4 * j) / 2 ^ m % 2 = b at hlt
    have hb : b = 0 ∨ b = 1 := by omega
    rcases hb with rfl | rfl
    · simp
    · simp
      omega
theorem outs_ev {E : Nat} (hE : E < b64 ^ 64) (A : Nat) (j : Nat) : j ≤ 1000 →
    Evt (fun k => mont_Exp.outs k n (mont_minus n) (limbs E) (powL n A 16) j (fl n A (E / 2 ^ (4 * j)))) (fl n A E) := by
  induction j with
  | zero =>
    intro _
    simp only [mont_Exp.outs]
    exact (Evt.pure _).congr (fun k => rfl) (by simp)
  | succ j ih =>
    intro hj
    simp only [mont_Exp.outs]
    refine Evt.bind (bits_ev h dn hE A j (by omega) 4 (E / 2 ^ (4 * (j + 1))) 0 (Nat.le_refl _)) ?_
    have hd : E / 2 ^ (4 * j) % 2 ^ 4 < 16 := Nat.mod_lt _ (by decide)
    have e1 : E / 2 ^ (4 * (j + 1)) * 2 ^ 4 + E / 2 ^ (4 * j) % 2 ^ 4 = E / 2 ^ (4 * j) := by
      rw [show 4 * (j + 1) = 4 * j + 4 from by omega, Nat.pow_add, ← Nat.div_div_eq_div_mul, Nat.mul_comm]
      exact Nat.div_add_mod _ _
    have e2 : (0 + ((E / 2 ^ (4 * j) % 2 ^ 4 : Nat) : Int)).toNat = E / 2 ^ (4 * j) % 2 ^ 4 := by omega
    have p := prod_fl_ev h dn A (E / 2 ^ (4 * (j + 1)) * 2 ^ 4) (E / 2 ^ (4 * j) % 2 ^ 4)
    rw [e1, ← powL_at (n := n) (A := A) hd] at p
    simp only
    rw [e2]
    exact Evt.bind p (ih (by omega))
theorem mont_Exp_ev {a e : List Int} (ha : a.length ≤ maxLen) (da : Dig (b64 : Int) a) (he : e.length ≤ maxLen) (de : Dig (b64 : Int) e) :
    Evt (fun k => mont_Exp.f k n (limbs (b64 ^ (1 * n.length) % num n)) (limbs (b64 ^ (2 * n.length) % num n)) (mont_minus n) a e) (if belowB n a = true ∧ rightB e = true ∧ e.length ≤ 8 then (limbs (num a ^ num e % num n), 0) else ([], 1)) := by
  obtain ⟨h1, h2, h3, h4, h5⟩ := mayM_parts dn h
  obtain ⟨n1, n2, n3⟩ := mayM_big dn h
  unfold mont_Exp.f
  have hb : Evt (fun k => mont_below.f k n [a]) (belowB n a) := by
    simp only [mont_below.f]
    refine Evt.bind (below_one_ev h1 (by simp only [maxLen]; omega) dn ha da) ?_
    cases belowB n a with
    | false => exact Evt.ite_neg (by simp) (Evt.pure _)
    | true => exact Evt.ite_pos rfl (Evt.pure _)
  refine Evt.bind hb ?_
  rw [nat_Right_eq he]
  simp only [Option.bind_some]
  by_cases hc : belowB n a = true ∧ rightB e = true ∧ e.length ≤ 8
  · rw [if_pos hc]
    refine Evt.ite_pos hc ?_
    obtain ⟨c1, c2, c3⟩ := hc
    obtain ⟨a1, a2, a3⟩ := below_parts da c1
    have f1 := product_of_mul (X := fl n (num a) 1) (by
      have m := mont_in_ev h dn ha da
      rw [if_pos c1] at m
      refine m.congr (fun k => rfl) ?_
      unfold fl formN
      rw [Nat.pow_one])
    refine Evt.bind f1 ?_
    have o1 : limbs (b64 ^ (1 * n.length) % num n) = fl n (num a) 0 := by
      unfold fl formN
      rw [Nat.pow_zero, Nat.one_mul, Nat.one_mul, b64_pow2]
    rw [o1]
    have p := pows_ev h dn (num a) 15 1 (by omega)
    refine Evt.bind p ?_
    have hz := nat_Bits_ev e he de
    rw [bitsV_bl de c2] at hz
    refine Evt.bind hz ?_
    have hE : num e < b64 ^ 64 := num_lt_p de (by omega)
    have hbl := bl_limb (E := num e) (j := 8) (Nat.lt_of_lt_of_le (num_lt de) (Nat.pow_le_pow_right (by decide) c3))
    refine Evt.ite_pos ⟨by omega, by omega⟩ ?_
    rw [Int.toNat_natCast]
    have o := outs_ev h dn hE (num a) ((bl (num e) + 3) / 4) (by omega)
    have z0 : num e / 2 ^ (4 * ((bl (num e) + 3) / 4)) = 0 := Nat.div_eq_of_lt (Nat.lt_of_lt_of_le (bl_lt _) (Nat.pow_le_pow_right (by omega) (by omega)))
    rw [z0, limbs_num de ((rightB_iff e).1 c2).2] at o
    refine Evt.bind o ?_
    exact Evt.bind (product_of_mul (mont_forth_ev h dn (num a ^ num e))) (Evt.pure _)
  · rw [if_neg hc]
    exact Evt.ite_neg hc (Evt.pure _)
end
end Go.Proofs.Ytlkinjhmgljapaa.Z
end
section
namespace Go.Proofs.Ytlkinjhmgljapaa.Pure
open Go.RowKit Go.Proofs.Ytlkinjhmgljapaa.F Go.Proofs.Ytlkinjhmgljapaa.Z
set_option linter.unusedSimpArgs false
set_option linter.unusedVariables false
theorem MontPowers : windbreaklaw02_MontPowers.Pure := by
  intro n a e hl _ hw ha _ hwa he _ hwe
  apply Evt.get
  unfold windbreaklaw02_MontPowers.f
  by_cases hbig : e.length > 20
  · exact Evt.ite_pos hbig (Evt.pure _)
  refine Evt.ite_neg hbig ?_
  have dn := dig_of_wf hw
  have da := dig_of_wf hwa
  have de := dig_of_wf hwe
  refine Evt.bind (fresh_ev hl dn) ?_
  by_cases h : mayM n = true
  · rw [if_pos h]
    refine Evt.bind (mont_Exp_ev h dn ha da he de) ?_
    refine Evt.bind (ref2_Exp_ev h hl dn ha da he de) ?_
    have hlen : (if belowB n a = true ∧ rightB e = true ∧ e.length ≤ 8 then (limbs (num a ^ num e % num n), (0 : Int)) else ([], 1)).1.length ≤ maxLen := by
      obtain ⟨n1, n2, n3⟩ := mayM_big dn h
      split
      · exact lmax (Nat.lt_of_lt_of_le (Nat.lt_trans (Nat.mod_lt _ (by omega)) n2) (pow64_mono (by omega)))
      · exact Nat.zero_le _
    refine Evt.bind (same_ev _ _ hlen) ?_
    exact (Evt.pure _).congr (fun k => rfl) (by simp)
  · rw [if_neg h]
    exact Evt.pure _
end Go.Proofs.Ytlkinjhmgljapaa.Pure
end
section
namespace Go.Proofs.YtlkinjhmgljapaaW.PrintWords
open Go.ChangeShapes Go.WideShapes
theorem sized_ints {H : Type} {enc : TypeId × Value → H} {P : Program} {W : World} {base : Nat} {spare : Nat → Bool} {held : Bool} {t e : TypeId} {k : IntKind} {a : Option Addr} {len cap : Nat} {d : DataW H} {ps : List MemPlace} {ts : List TypeId} {ds : List (DataW H)} {j : Nat}
    (hsz : (DataW.weightsEach P ts ds).all (· ≤ reachBytes) = true) (ht : ts[j]? = some t) (hd : ds[j]? = some d) (hu : P.underlying t = some (.slice e)) (he : P.underlying e = some (.int k)) (hc : P.cellsOf e = 1) {B : Nat} (hB : P.bytesOf e = B)
    (h : DataW.Trod enc P W base spare held t (.slice a len cap) d ps) : len * B ≤ 140737488351232 := by
  obtain ⟨fuel, hf⟩ := h
  rcases open_ints hu he hc hf with ⟨hcs, _⟩ | ⟨x, l, c, zs, hcs, _, hl, _, hz, hx, _, _⟩
  · simp [Value.cells] at hcs
    obtain ⟨rfl, rfl, rfl⟩ := hcs
    simp
  · simp [Value.cells] at hcs
    obtain ⟨rfl, rfl, rfl⟩ := hcs
    obtain ⟨hx, _⟩ := Prod.mk.inj hx
    subst hx
    have z := sized_slice hsz ht hd hu
    rw [hB] at z
    have hl2 : len ≤ zs.length := by
      rw [hz]
      split
      · exact hl
      · exact Nat.le_refl _
    have h1 : (lits (H := H) k (zs.take len)).length + (lits (H := H) k (zs.drop len)).length = zs.length := by
      simp [lits]
      omega
    rw [h1] at z
    exact Nat.le_trans (Nat.mul_le_mul_right _ hl2) z
end Go.Proofs.YtlkinjhmgljapaaW.PrintWords
end
section
namespace Go.Proofs.Ytlkinjhmgljapaa.montPowers
open Go.ChangeShapes Go.WideShapes Go.ChangeAt Go.RowKit
open Go.ChangeMaps (open_string shut_string)
set_option linter.unusedVariables false
theorem own : ownKnob Try.prog.godebug = none := by kernel_rfl
theorem laidOut : laidOutB Try.prog = true := by kernel_rfl
def IsRow (k : IntKind) (w : World) (a : Option Addr) (len cap : Nat) (zs : List Int) : Prop :=
  (a = none ∧ len = 0 ∧ cap = 0 ∧ zs = []) ∨
  ∃ x, a = some x ∧ len ≤ cap ∧ cap ≤ maxLen ∧ zs.length = cap ∧ (∀ i, i < zs.length → w.cell? (x.add i) = some (.int k (zs.getD i 0))) ∧ ∀ n ∈ zs, (Lit.int k n).wf = true
set_option maxRecDepth 100000 in
theorem lifted (os : Os) (started : os.Started) (H : Type) (enc : TypeId × Value → H) :
    ReturnsInHanded {} Try.checked os 7 .any (Rows.montPowersSpec.pre6 enc Try.prog Try.f7 Rows.montPowersRow.domain false) (Rows.montPowersSpec.post enc Try.prog Try.f7 false true false false) := by
  refine returnsInHanded_of_change_sized (C := Try.checked) own started (by kernel_rfl) Try.func7
    (ChangeSpec.witness6 (enc := enc) (C := Try.checked) false ⟨#[], #[.slice none 0 0, .slice none 0 0, .slice none 0 0], []⟩ 8 (by kernel_rfl) (by kernel_rfl) (by kernel_rfl) (by kernel_rfl)) ?_
  intro W base args ds gs before hval0 hW hcnd hsz0 _
  have hsz : (DataW.weightsEach Try.prog (Try.f7.params.toList ++ Rows.montPowersSpec.plain.varTypes Try.prog) (ds ++ gs)).all (· ≤ reachBytes) = true := hsz0
  have hval : ∀ (j : Nat) t v, Try.f7.params[j]? = some t → args[j]? = some v → Value.okWide Try.prog W .any base t v := hval0
  have hW' := hW
  obtain ⟨p, q, hA0, hV, rfl, hfz, hnd⟩ := hW
  have hA : DataW.TrodAll enc Try.prog W 0 (fun _ => true) true Try.f7.params.toList args.toList ds p := hA0
  rw [Try.params7] at hA hval hsz
  obtain ⟨v0, vs0, d0, ds0, p0, q0, hargs, rfl, rfl, h0, r0⟩ := trodAll_cons hA
  obtain ⟨v1, vs1, d1, ds1, p1, q1, rfl, rfl, rfl, h1, r1⟩ := trodAll_cons r0
  obtain ⟨v2, vs2, d2, ds2, p2, q2, rfl, rfl, rfl, h2, r2⟩ := trodAll_cons r1
  obtain ⟨rfl, rfl, rfl⟩ := trodAll_nil r2
  obtain rfl : args = #[v0, v1, v2] := by cases args; simp_all
  obtain ⟨rfl, rfl⟩ := trodVars_none hV
  obtain ⟨a0, len0, cap0, rfl⟩ := okWide_slice Try.underlying23 (hval 0 23 v0 rfl rfl)
  have k0 := h0
  have lt0 : ∀ x ∈ p0, x.block < W.heap.size := by obtain ⟨m, hm⟩ := k0; exact DataW.trod_lt m _ _ _ hm
  obtain ⟨z0, w0⟩ : ∃ zs, IsRow .u64 W a0 len0 cap0 zs := by
    obtain ⟨fuel, hf⟩ := h0
    rcases open_ints Try.underlying23 Try.underlying50 (by kernel_rfl) hf with ⟨hcs, _⟩ | ⟨x, l, c, zs, hcs, _, hl, hm, hz, _, hcell, hwz⟩
    · simp [Value.cells] at hcs
      obtain ⟨rfl, rfl, rfl⟩ := hcs
      exact ⟨[], .inl ⟨rfl, rfl, rfl, rfl⟩⟩
    · simp [Value.cells] at hcs
      obtain ⟨rfl, rfl, rfl⟩ := hcs
      exact ⟨zs, .inr ⟨_, rfl, hl, hm, by simpa using hz, hcell, hwz⟩⟩
  have y0 : len0 * 8 ≤ 140737488351232 := Go.Proofs.YtlkinjhmgljapaaW.PrintWords.sized_ints hsz (j := 0) (t := 23) rfl rfl Try.underlying23 Try.underlying50 (by kernel_rfl) (by kernel_rfl) h0
  obtain ⟨a1, len1, cap1, rfl⟩ := okWide_slice Try.underlying23 (hval 1 23 v1 rfl rfl)
  have k1 := h1
  have lt1 : ∀ x ∈ p1, x.block < W.heap.size := by obtain ⟨m, hm⟩ := k1; exact DataW.trod_lt m _ _ _ hm
  obtain ⟨z1, w1⟩ : ∃ zs, IsRow .u64 W a1 len1 cap1 zs := by
    obtain ⟨fuel, hf⟩ := h1
    rcases open_ints Try.underlying23 Try.underlying50 (by kernel_rfl) hf with ⟨hcs, _⟩ | ⟨x, l, c, zs, hcs, _, hl, hm, hz, _, hcell, hwz⟩
    · simp [Value.cells] at hcs
      obtain ⟨rfl, rfl, rfl⟩ := hcs
      exact ⟨[], .inl ⟨rfl, rfl, rfl, rfl⟩⟩
    · simp [Value.cells] at hcs
      obtain ⟨rfl, rfl, rfl⟩ := hcs
      exact ⟨zs, .inr ⟨_, rfl, hl, hm, by simpa using hz, hcell, hwz⟩⟩
  have y1 : len1 * 8 ≤ 140737488351232 := Go.Proofs.YtlkinjhmgljapaaW.PrintWords.sized_ints hsz (j := 1) (t := 23) rfl rfl Try.underlying23 Try.underlying50 (by kernel_rfl) (by kernel_rfl) h1
  obtain ⟨a2, len2, cap2, rfl⟩ := okWide_slice Try.underlying23 (hval 2 23 v2 rfl rfl)
  have k2 := h2
  have lt2 : ∀ x ∈ p2, x.block < W.heap.size := by obtain ⟨m, hm⟩ := k2; exact DataW.trod_lt m _ _ _ hm
  obtain ⟨z2, w2⟩ : ∃ zs, IsRow .u64 W a2 len2 cap2 zs := by
    obtain ⟨fuel, hf⟩ := h2
    rcases open_ints Try.underlying23 Try.underlying50 (by kernel_rfl) hf with ⟨hcs, _⟩ | ⟨x, l, c, zs, hcs, _, hl, hm, hz, _, hcell, hwz⟩
    · simp [Value.cells] at hcs
      obtain ⟨rfl, rfl, rfl⟩ := hcs
      exact ⟨[], .inl ⟨rfl, rfl, rfl, rfl⟩⟩
    · simp [Value.cells] at hcs
      obtain ⟨rfl, rfl, rfl⟩ := hcs
      exact ⟨zs, .inr ⟨_, rfl, hl, hm, by simpa using hz, hcell, hwz⟩⟩
  have y2 : len2 * 8 ≤ 140737488351232 := Go.Proofs.YtlkinjhmgljapaaW.PrintWords.sized_ints hsz (j := 2) (t := 23) rfl rfl Try.underlying23 Try.underlying50 (by kernel_rfl) (by kernel_rfl) h2
  clear hA0 hval0 hsz0 hsz
  refine (F.windbreaklaw02_MontPowers.walk Pure.MontPowers a0 len0 cap0 z0 a1 len1 cap1 z1 a2 len2 cap2 z2 W w0 y0 w1 y1 w2 y2).mono fun e W' ⟨he, bel⟩ => ?_
  subst he
  exact ⟨_, rfl, _, _, _, [], _, [], hW', trodAll_mk1 (shut_bool Try.underlying4 _), (trodAll_cons_mk (Below.trod laidOut (by kernel_rfl) (of_decide_eq_true (by kernel_rfl)) k0 bel lt0) (trodAll_cons_mk (Below.trod laidOut (by kernel_rfl) (of_decide_eq_true (by kernel_rfl)) k1 bel lt1) (trodAll_cons_mk (Below.trod laidOut (by kernel_rfl) (of_decide_eq_true (by kernel_rfl)) k2 bel lt2) trodAll_mk0))), rfl, bel.frame _, fun h => by cases h⟩
theorem over : Rows.montPowersRow.holds Try.pinned (OpenSpec.ofChange Rows.montPowersSpec) :=
  OpenClaim.holds_of_wide 7 Try.f7 rfl rfl rfl rfl rfl rfl rfl ⟨rfl, rfl, rfl, rfl, rfl⟩ rfl rfl rfl rfl rfl (by kernel_rfl) Try.func7 (by kernel_rfl)
    (of_decide_eq_true (by kernel_rfl)) (by unfold Func.isWrapper; first | (rw [if_pos (by decide +kernel)]; kernel_rfl) | (rw [if_neg (by decide +kernel)]; exact ⟨rfl, rfl⟩))
    (fun os started H enc _ => lifted os started H enc)
theorem proved : Rows.MontPowersSaid := over
#print axioms proved
end Go.Proofs.Ytlkinjhmgljapaa.montPowers
namespace Go.Proofs.Ytlkinjhmgljapaa
theorem montPowers_holds : Rows.MontPowersSaid := montPowers.proved
end Go.Proofs.Ytlkinjhmgljapaa
end
