/- Proved: the law NatBack of layer 1: the quotient times b and the rest is a, and the rest is less than b; for every input, without a condition. -/
import Derived.Test.YteabkedhdgnhgabMNatBacke
import Derived.SizedLaws
import Derived.ChangeSlices
import Derived.Test.YteabkedhdgnhgabRows
import Derived.WalkKit
import Derived.ProofKit
import Derived.OpenShut
import Derived.ShutString
import Derived.ChangeOld
import Derived.Below

section
namespace Go.Proofs.Yteabkedhdgnhgab.Z
open Go.RowKit Go.Proofs.Yteabkedhdgnhgab.F Go.Proofs.YteabkedhdgnhgabW.PrintWords Go.Proofs.YteabkedhdgnhgabW.PrintMore
set_option linter.unusedSimpArgs false
set_option linter.unusedVariables false
theorem limbs_dig' (v : Nat) : Dig (b64 : Int) (limbs v) := toD_dig b64_two v
theorem limbs_can' (v : Nat) : Can (limbs v) := toD_can b64_two v
theorem limbs_len' {v n : Nat} (h : v < b64 ^ n) : (limbs v).length ≤ n := toD_len_le b64_two h
theorem pow_pos64' (n : Nat) : 0 < b64 ^ n := Nat.pow_pos (by decide)
theorem num_strip' {l : List Int} (d : Dig (b64 : Int) l) : num (strip l) = num l := by rw [strip_limbs d, num_limbs]
theorem vdrop (B : Int) (a : List Int) (j : Nat) : val B (a.drop j) = a.getD j 0 + B * val B (a.drop (j + 1)) := by
  by_cases h : j < a.length
  · rw [List.drop_eq_getElem_cons h]
    simp [val, List.getD_eq_getElem?_getD, h]
  · rw [List.drop_of_length_le (by omega), List.drop_of_length_le (by omega)]
    simp [val, List.getD_eq_getElem?_getD, Nat.le_of_not_lt h]
theorem vsplit (B : Int) (a : List Int) (j : Nat) (hj : j ≤ a.length) : val B a = val B (a.take j) + B ^ j * val B (a.drop j) := by
  have := val_append B (a.take j) (a.drop j)
  rw [List.take_append_drop, List.length_take, Nat.min_eq_left hj] at this
  exact this
theorem clone_ev (l : List Int) (h : l.length ≤ 100000) : api_Nat_uint64.f l = some l := by
  unfold api_Nat_uint64.f
  simp only [Option.bind_some, List.nil_append, List.length_nil]
  rw [if_pos (by omega)]
theorem long_l2 (a q : List Int) (da : Dig (b64 : Int) a) (ha : a.length ≤ 100000) (hq : q.length ≤ 100000) (s : Nat) (hs : s < 64) (n : Nat) :
    ∀ (i : Nat) (p : List Int), a.length - i = n → i ≤ a.length → p.length = i → p ++ downL s (a.drop i) = downL s a →
      Evt (fun k => nat_long.l2 k (s : Int) q a (p ++ List.replicate n 0) (a.length : Int) (i : Int)) (strip q, strip (downL s a)) := by
  induction n with
  | zero =>
    intro i p hn hi hp he
    refine Evt.succ ?_
    simp only [nat_long.l2]
    refine Evt.ite_neg (by omega) ?_
    rw [List.drop_of_length_le (by omega)] at he
    simp only [downL, List.append_nil] at he
    rw [List.replicate_zero, List.append_nil, he]
    have hdl := (downL_facts s hs a da).2.1
    exact Evt.bind (nat_trim_ev q (by simp [maxLen]; omega)) (Evt.bind (nat_trim_ev (downL s a) (by simp [maxLen]; omega)) (h := fun t _ => some (strip q, t)) (Evt.pure _))
  | succ n ih =>
    intro i p hn hi hp he
    have hlt : i < a.length := by omega
    have rx := da a[i] (List.getElem_mem hlt)
    have ry := (da.drop (i + 1)).getD b64_pos 0
    have hB : (b64 : Int) = 18446744073709551616 := rfl
    rw [hB] at rx ry
    rw [List.drop_eq_getElem_cons hlt] at he
    simp only [downL] at he
    have hx : rd a (i : Int) = a[i] := by simp [rd_nat, hlt]
    refine Evt.succ ?_
    simp only [nat_long.l2]
    refine Evt.ite_pos (by omega) (Evt.ite_pos (by omega) (Evt.ite_pos (by omega) (Evt.ite_pos (by omega) (Evt.ite_pos (by simp; omega) ?_))))
    refine Evt.bind (Evt.pure _) ?_
    rw [hx, shr_u64 _ s (by omega), show ((i : Int)).toNat = p.length from by omega, List.replicate_succ, set_at, w64 (show -9223372036854775808 ≤ (i : Int) + 1 by omega) (by omega)]
    have hps := pow2_pos s
    have hxd0 : 0 ≤ a[i] / 2 ^ s := Int.ediv_nonneg rx.1 (by omega)
    by_cases h0 : s = 0
    · refine Evt.ite_neg (by omega) ?_
      rw [if_pos h0, Int.add_zero] at he
      refine (ih (i + 1) (p ++ [a[i] / 2 ^ s]) (by omega) (by omega) (by simp; omega) (by rw [List.append_assoc]; exact he)).congr (fun k => ?_) rfl
      rw [List.append_assoc]; rfl
    · refine Evt.ite_pos (by omega) ?_
      rw [if_neg h0] at he
      by_cases h1 : i + 1 < a.length
      · refine Evt.ite_pos (by omega) (Evt.ite_pos (by omega) (Evt.ite_pos (by rw [wu64_of (by omega) (by omega)]; omega) ?_))
        have hy : rd a ((i : Int) + 1) = a[i + 1] := by
          rw [show (i : Int) + 1 = ((i + 1 : Nat) : Int) from by omega, rd_nat]
          simp [List.getD_eq_getElem?_getD, h1]
        have hy2 : (a.drop (i + 1)).getD 0 0 = a[i + 1] := by simp [List.getD_eq_getElem?_getD, h1]
        have hg : rd (p ++ a[i] / 2 ^ s :: List.replicate n 0) (i : Int) = a[i] / 2 ^ s := by
          rw [rd_nat]
          simp [List.getD_eq_getElem?_getD, ← hp]
        rw [hy2] at he ry
        obtain ⟨f1, f2, f3, f4⟩ := shl_facts ry (s := 64 - s) (by omega)
        have hxd1 : a[i] / 2 ^ s < 2 ^ (64 - s) := by
          apply Int.ediv_lt_of_lt_mul hps
          rw [Int.mul_comm, pow64_split (by omega)]
          exact rx.2
        have hz0 : 0 ≤ (a[i + 1] * 2 ^ (64 - s)) % 18446744073709551616 := by omega
        have hz1 : (a[i + 1] * 2 ^ (64 - s)) % 18446744073709551616 < 18446744073709551616 := by omega
        have hq64 : (2 : Int) ^ (64 - s) ≤ 2 ^ 64 := pow_mono (by omega) (by omega)
        rw [hy, hg, wu64_of (show (0 : Int) ≤ 64 - (s : Int) by omega) (by omega), show (64 : Int) - (s : Int) = ((64 - s : Nat) : Int) from by omega, shl_u64 _ (64 - s) (by omega), set_at, or_comm_u64 hxd0 (by omega) hz0 hz1, or_u64 (64 - s) (by omega) hz0 f2 hz1 hxd0 hxd1]
        refine (ih (i + 1) (p ++ [(a[i + 1] * 2 ^ (64 - s)) % 18446744073709551616 + a[i] / 2 ^ s]) (by omega) (by omega) (by simp; omega) (by rw [List.append_assoc, Int.add_comm ((a[i + 1] * 2 ^ (64 - s)) % 18446744073709551616)]; exact he)).congr (fun k => ?_) rfl
        rw [List.append_assoc]; rfl
      · refine Evt.ite_neg (by omega) ?_
        have hy2 : (a.drop (i + 1)).getD 0 0 = 0 := by rw [List.drop_of_length_le (by omega)]; rfl
        rw [hy2, Int.zero_mul, Int.zero_emod, Int.add_zero] at he
        refine (ih (i + 1) (p ++ [a[i] / 2 ^ s]) (by omega) (by omega) (by simp; omega) (by rw [List.append_assoc]; exact he)).congr (fun k => ?_) rfl
        rw [List.append_assoc]; rfl
/-- The guess goes down until it fits. -/
theorem long_l1 (r d q part sN : List Int) (s dk gs : Int) (a : Nat) (hpart : part.length ≤ 1000) (hdl : d.length ≤ 1000) (dp : Dig (b64 : Int) part) (dd : Dig (b64 : Int) d) (hg0 : 0 ≤ gs)
    (hfit : ∀ g : Int, 0 ≤ g → (num d * g.toNat ≤ num part ↔ g ≤ gs)) (hs : Evt (fun k => nat_less.f k part (limbs (num d * gs.toNat))) sN) (hsl : sN.length = part.length) (haq : a < q.length) (ha : a ≤ 1000000)
    {res : List Int × List Int} (fin : Evt (fun k => nat_long.l0 k s (r.take a ++ (sN ++ r.drop (a + part.length))) d dk (q.set a gs) ((a : Int) - 1)) res) (n : Nat) :
    ∀ g : Int, gs ≤ g → g < 18446744073709551616 → g - gs ≤ n → Evt (fun k => nat_long.l1 k s r d dk q (a : Int) g part) res := by
  have step : ∀ g : Int, gs ≤ g → g < 18446744073709551616 → (gs < g → Evt (fun k => nat_long.l1 k s r d dk q (a : Int) (IntKind.u64.wrap (g - 1)) part) res) → Evt (fun k => nat_long.l1 k s r d dk q (a : Int) g part) res := by
    intro g h1 h2 hnext
    have dg : Dig (b64 : Int) [g] := Dig.cons.2 ⟨⟨by omega, h2⟩, Dig.nil⟩
    have hng : num (strip [g]) = g.toNat := by rw [num_strip' dg, num_one (by omega)]
    refine Evt.succ ?_
    simp only [nat_long.l1]
    refine Evt.bind (nat_Of_ev g) ?_
    refine Evt.bind (nat_school_ev d (strip [g]) (by omega) (by have := strip_length [g]; simp at this; omega) dd (by rw [strip_limbs dg]; exact limbs_dig' _)) ?_
    refine Evt.bind (Evt.of (fun _ => clone_ev part (by omega))) ?_
    refine Evt.bind (nat_trim_ev part (by simp [maxLen]; omega)) ?_
    rw [hng, strip_limbs dp]
    refine Evt.bind (nat_compare_ev (limbs (num part)) (limbs (num d * g.toNat)) (limbs_dig' _) (limbs_dig' _) (limbs_can' _) (limbs_can' _) (by have := limbs_len' (num_lt dp); omega)) ?_
    rw [num_limbs, num_limbs]
    by_cases hle : g ≤ gs
    · obtain rfl : g = gs := by omega
      have hf := (hfit g hg0).2 (Int.le_refl _)
      refine Evt.ite_pos (by unfold cmpN; rw [if_neg (by omega)]; split <;> omega) ?_
      refine Evt.bind hs ?_
      refine Evt.ite_pos hsl (Evt.ite_pos (by omega) (Evt.ite_pos (by omega) ?_))
      rw [Int.toNat_natCast, w64 (by omega) (by omega)]
      exact fin
    · have hf : ¬ num d * g.toNat ≤ num part := fun h => hle ((hfit g (by omega)).1 h)
      refine Evt.ite_neg (by unfold cmpN; rw [if_pos (by omega)]; omega) ?_
      exact hnext (by omega)
  induction n with
  | zero =>
    intro g h1 h2 h3
    exact step g h1 h2 (fun h => absurd h (by omega))
  | succ n ih =>
    intro g h1 h2 h3
    refine step g h1 h2 (fun h => ?_)
    rw [wu64_of (by omega) (by omega)]
    exact ih (g - 1) (by omega) (by omega) (by omega)
/-- What the guess is told, and what it is for: no digit that fits into the part is above it. -/
theorem guess_fits {X D P0 D0 W r2 r1 r0 d1 d0 g h : Int} (hX : X = P0 + W * (r0 + 18446744073709551616 * (r1 + 18446744073709551616 * r2))) (hD : D = D0 + W * (d0 + 18446744073709551616 * d1))
    (hP : P0 < W) (hD0 : 0 ≤ D0) (hW : 0 < W) (hh : 0 ≤ h) (hfit : h * D ≤ X) : h * (d1 * 18446744073709551616 + d0) ≤ (r2 * 18446744073709551616 + r1) * 18446744073709551616 + r0 := by
  refine Int.not_lt.1 (fun hlt => ?_)
  have e1 : (r2 * 18446744073709551616 + r1) * 18446744073709551616 + r0 + 1 ≤ h * (d1 * 18446744073709551616 + d0) := hlt
  have e2 := Int.mul_le_mul_of_nonneg_left e1 (Int.le_of_lt hW)
  have e3 : 0 ≤ h * D0 := Int.mul_nonneg hh hD0
  have e4 : h * D = h * D0 + W * (h * (d1 * 18446744073709551616 + d0)) := by rw [hD]; grind
  have e5 : W * ((r2 * 18446744073709551616 + r1) * 18446744073709551616 + r0 + 1) = W * (r0 + 18446744073709551616 * (r1 + 18446744073709551616 * r2)) + W := by grind
  omega
theorem long_l0 (s : Nat) (hs : s < 64) (d : List Int) (dd : Dig (b64 : Int) d) (cd : Can d) (hk : 2 ≤ d.length) (hdl : d.length ≤ 400) (A : Int) (ql : Nat) (hql : ql ≤ 400) (i : Nat) :
    ∀ r q : List Int, i ≤ ql → r.length = ql + d.length → q.length = ql → Dig (b64 : Int) r → Dig (b64 : Int) q → val (b64 : Int) (r.drop i) < val (b64 : Int) d → val (b64 : Int) (q.drop i) * (b64 : Int) ^ i * val (b64 : Int) d + val (b64 : Int) r = A →
      Evt (fun k => nat_long.l0 k (s : Int) r d (d.length : Int) q ((i : Int) - 1)) (limbs (A / val (b64 : Int) d).toNat, limbs ((A % val (b64 : Int) d).toNat / 2 ^ s)) := by
  have hB : (b64 : Int) = 18446744073709551616 := rfl
  have hDn := val_nonneg b64_pos dd
  induction i with
  | zero =>
    intro r q hi hr hq dr dq hlt hv
    rw [List.drop_zero] at hlt
    rw [List.drop_zero, Int.pow_zero, Int.mul_one] at hv
    have hrn := val_nonneg b64_pos dr
    have e1 : A / val (b64 : Int) d = val (b64 : Int) q := by
      rw [← hv, Int.mul_comm, Int.mul_add_ediv_left _ _ (by omega), Int.ediv_eq_zero_of_lt hrn hlt, Int.add_zero]
    have e2 : A % val (b64 : Int) d = val (b64 : Int) r := by
      rw [← hv, Int.mul_comm, Int.add_comm, Int.add_mul_emod_self_left, Int.emod_eq_of_lt hrn hlt]
    rw [e1, e2, show (val (b64 : Int) q).toNat = num q from rfl, show (val (b64 : Int) r).toNat = num r from rfl]
    refine Evt.succ ?_
    simp only [nat_long.l0]
    refine Evt.ite_neg (by omega) ?_
    refine Evt.bind (nat_trim_ev r (by simp [maxLen]; omega)) ?_
    have hsl := strip_length r
    refine Evt.ite_pos (by omega) (Evt.ite_pos (by omega) ?_)
    rw [Int.toNat_natCast]
    have dsr : Dig (b64 : Int) (strip r) := by rw [strip_limbs dr]; exact limbs_dig' _
    refine (long_l2 (strip r) q dsr (by omega) (by omega) s hs (strip r).length 0 [] (by omega) (by omega) rfl (by simp)).congr (fun k => by rfl) ?_
    have hdw := downL_facts s hs (strip r) dsr
    rw [strip_limbs dq, strip_limbs hdw.1, num_down dsr s hs, num_strip' dr]
  | succ a ih =>
    intro r q hi hr hq dr dq hlt hv
    rw [show ((a + 1 : Nat) : Int) - 1 = (a : Int) from by omega]
    have hDlt := val_lt b64_pos dd
    -- above the part there is nothing
    have h1 := vsplit (b64 : Int) (r.drop (a + 1)) d.length (by rw [List.length_drop]; omega)
    rw [List.drop_drop] at h1
    have h2 := val_nonneg b64_pos ((dr.drop (a + 1)).take d.length)
    have h3 := val_nonneg b64_pos (dr.drop (a + 1 + d.length))
    have hW : (0 : Int) < (b64 : Int) ^ d.length := Int.pow_pos b64_pos
    have h4 : val (b64 : Int) (r.drop (a + 1 + d.length)) = 0 := by
      refine Int.le_antisymm (Int.not_lt.1 (fun h => ?_)) h3
      have := Int.mul_le_mul_of_nonneg_left (show (1 : Int) ≤ val (b64 : Int) (r.drop (a + 1 + d.length)) from h) (Int.le_of_lt hW)
      omega
    have hX := vdrop (b64 : Int) r a
    have hra := dr.getD b64_pos a
    have hpartl : (((r.take (a + d.length + 1)).drop a)).length = d.length + 1 := by
      rw [List.length_drop, List.length_take]; omega
    have hpv : val (b64 : Int) ((r.take (a + d.length + 1)).drop a) = val (b64 : Int) (r.drop a) := by
      have h5 := vsplit (b64 : Int) (r.drop a) (d.length + 1) (by rw [List.length_drop]; omega)
      rw [List.drop_drop, show a + (d.length + 1) = a + 1 + d.length from by omega, h4, Int.mul_zero, Int.add_zero] at h5
      rw [List.drop_take, show a + d.length + 1 - a = d.length + 1 from by omega]
      exact h5.symm
    have dpart : Dig (b64 : Int) ((r.take (a + d.length + 1)).drop a) := (dr.take _).drop _
    have hXlt : val (b64 : Int) (r.drop a) < 18446744073709551616 * val (b64 : Int) d := by
      rw [hX, hB] at *
      omega
    have hX0 : 0 ≤ val (b64 : Int) (r.drop a) := val_nonneg b64_pos (dr.drop a)
    have hD0 : 0 < val (b64 : Int) d := by
      have := val_nonneg b64_pos (dr.drop (a + 1))
      omega
    -- the digit
    obtain ⟨gs, hgs⟩ : ∃ gs, gs = val (b64 : Int) (r.drop a) / val (b64 : Int) d := ⟨_, rfl⟩
    have hgs0 : 0 ≤ gs := by rw [hgs]; exact Int.ediv_nonneg hX0 hDn
    have hgs1 : gs < 18446744073709551616 := by
      rw [hgs]
      exact Int.ediv_lt_of_lt_mul hD0 hXlt
    have hle : ∀ g : Int, g * val (b64 : Int) d ≤ val (b64 : Int) (r.drop a) ↔ g ≤ gs := fun g => by rw [hgs, Int.le_ediv_iff_mul_le hD0]
    have hnd := num_val dd
    have hnp := num_val dpart
    have hfit : ∀ g : Int, 0 ≤ g → (num d * g.toNat ≤ num ((r.take (a + d.length + 1)).drop a) ↔ g ≤ gs) := by
      intro g hg
      rw [← hle g, ← hpv, ← hnp, ← hnd]
      obtain ⟨m, rfl⟩ := Int.eq_ofNat_of_zero_le hg
      rw [Int.toNat_natCast, Nat.mul_comm]
      have : ((m : Int) * (num d : Int)) = ((m * num d : Nat) : Int) := by simp
      rw [this]
      omega
    have hsmall : num d * gs.toNat ≤ num ((r.take (a + d.length + 1)).drop a) := (hfit gs hgs0).2 (Int.le_refl _)
    obtain ⟨sN, s1, s2, s3, s4⟩ := nat_less_ev ((r.take (a + d.length + 1)).drop a) (limbs (num d * gs.toNat)) (by omega) (limbs_len' (Nat.lt_of_le_of_lt hsmall (num_lt dpart))) dpart (limbs_dig' _) (by rw [num_limbs]; exact hsmall)
    rw [num_limbs] at s3
    have hsv : val (b64 : Int) sN = val (b64 : Int) (r.drop a) - gs * val (b64 : Int) d := by
      rw [← num_val s2, s3, ← hpv, ← hnp, ← hnd]
      obtain ⟨m, hm⟩ := Int.eq_ofNat_of_zero_le hgs0
      rw [hm] at hsmall ⊢
      rw [Int.toNat_natCast] at hsmall ⊢
      have : ((m : Int) * (num d : Int)) = ((num d * m : Nat) : Int) := by rw [Nat.mul_comm]; simp
      rw [this]
      omega
    have hslt : val (b64 : Int) sN < val (b64 : Int) d := by
      have h6 := Int.emod_lt_of_pos (val (b64 : Int) (r.drop a)) hD0
      have h7 := Int.emod_add_mul_ediv (val (b64 : Int) (r.drop a)) (val (b64 : Int) d)
      rw [← hgs, Int.mul_comm] at h7
      omega
    -- the next round
    have hnew : (r.take a ++ (sN ++ r.drop (a + sN.length))).drop a = sN ++ r.drop (a + sN.length) := by
      rw [List.drop_append, List.drop_of_length_le (by rw [List.length_take]; omega), List.length_take, Nat.min_eq_left (by omega), Nat.sub_self, List.drop_zero, List.nil_append]
    have hnv : val (b64 : Int) (sN ++ r.drop (a + sN.length)) = val (b64 : Int) sN := by
      rw [val_append, s4, hpartl, show a + (d.length + 1) = a + 1 + d.length from by omega, h4, Int.mul_zero, Int.add_zero]
    have hfin := ih (r.take a ++ (sN ++ r.drop (a + sN.length))) (q.set a gs) (by omega) (by simp only [List.length_append, List.length_take, List.length_drop, s4, hpartl]; omega) (by rw [List.length_set]; exact hq)
      (Dig.append.2 ⟨dr.take _, Dig.append.2 ⟨s2, dr.drop _⟩⟩) (dq.set _ ⟨hgs0, hgs1⟩) (by rw [hnew, hnv]; exact hslt) (by
        rw [val_append, hnv, hsv, List.length_take, Nat.min_eq_left (by omega)]
        have e1 : (q.set a gs).drop a = gs :: q.drop (a + 1) := by
          rw [List.drop_eq_getElem_cons (by rw [List.length_set]; omega), List.drop_set, if_pos (Nat.lt_succ_self a)]
          simp
        rw [e1]
        simp only [val]
        have h8 := vsplit (b64 : Int) r a (by omega)
        rw [Int.pow_succ] at hv
        rw [← hv, h8]
        generalize val (b64 : Int) (q.drop (a + 1)) = Q
        generalize (b64 : Int) ^ a = W
        generalize val (b64 : Int) d = D
        generalize (b64 : Int) = B
        grind)
    -- the guess
    have k1 := can_last cd (by omega)
    have kd1 := dd.getD b64_pos (d.length - 1)
    have kd0 := dd.getD b64_pos (d.length - 2)
    have kr2 := dr.getD b64_pos (a + d.length)
    have kr1 := dr.getD b64_pos (a + d.length - 1)
    have kr0 := dr.getD b64_pos (a + d.length - 2)
    rw [hB] at kd1 kd0 kr2 kr1 kr0
    obtain ⟨g, g1, g2, g3⟩ := nat_guess_ev (r2 := r.getD (a + d.length) 0) (r1 := r.getD (a + d.length - 1) 0) (r0 := r.getD (a + d.length - 2) 0) (d1 := d.getD (d.length - 1) 0) (d0 := d.getD (d.length - 2) 0) kr2.1 kr1 kr0 ⟨by omega, kd1.2⟩ kd0
    have hgg : gs ≤ g := by
      refine g3 gs hgs1 ?_
      have eX : val (b64 : Int) (r.drop a) = val (b64 : Int) ((r.drop a).take (d.length - 2)) + (b64 : Int) ^ (d.length - 2) * (r.getD (a + d.length - 2) 0 + 18446744073709551616 * (r.getD (a + d.length - 1) 0 + 18446744073709551616 * r.getD (a + d.length) 0)) := by
        rw [vsplit (b64 : Int) (r.drop a) (d.length - 2) (by rw [List.length_drop]; omega), List.drop_drop, show a + (d.length - 2) = a + d.length - 2 from by omega, vdrop (b64 : Int) r (a + d.length - 2), show a + d.length - 2 + 1 = a + d.length - 1 from by omega, vdrop (b64 : Int) r (a + d.length - 1), show a + d.length - 1 + 1 = a + d.length from by omega, vdrop (b64 : Int) r (a + d.length), show a + d.length + 1 = a + 1 + d.length from by omega, h4, Int.mul_zero, Int.add_zero, hB]
      have eD : val (b64 : Int) d = val (b64 : Int) (d.take (d.length - 2)) + (b64 : Int) ^ (d.length - 2) * (d.getD (d.length - 2) 0 + 18446744073709551616 * d.getD (d.length - 1) 0) := by
        have := vsplit (b64 : Int) d (d.length - 2) (by omega)
        rw [vdrop (b64 : Int) d (d.length - 2), show d.length - 2 + 1 = d.length - 1 from by omega, vdrop (b64 : Int) d (d.length - 1), show d.length - 1 + 1 = d.length from by omega, List.drop_length] at this
        simp only [val, Int.mul_zero, Int.add_zero] at this
        rw [hB] at this ⊢
        exact this
      have hPlt := val_lt b64_pos ((dr.drop a).take (d.length - 2))
      rw [List.length_take, List.length_drop, Nat.min_eq_left (by omega)] at hPlt
      exact guess_fits (g := 0) eX eD hPlt (val_nonneg b64_pos (dd.take _)) (Int.pow_pos b64_pos) hgs0 ((hle gs).2 (Int.le_refl _))
    refine Evt.succ ?_
    simp only [nat_long.l0]
    rw [w64 (x := (a : Int) + (d.length : Int)) (by omega) (by omega), w64 (x := (a : Int) + (d.length : Int) - 1) (by omega) (by omega), w64 (x := (a : Int) + (d.length : Int) - 2) (by omega) (by omega), w64 (x := (d.length : Int) - 1) (by omega) (by omega), w64 (x := (d.length : Int) - 2) (by omega) (by omega), w64 (x := (a : Int) + (d.length : Int) + 1) (by omega) (by omega)]
    rw [show (a : Int) + (d.length : Int) - 1 = ((a + d.length - 1 : Nat) : Int) from by omega, show (a : Int) + (d.length : Int) - 2 = ((a + d.length - 2 : Nat) : Int) from by omega, show (a : Int) + (d.length : Int) = ((a + d.length : Nat) : Int) from by omega, show (d.length : Int) - 1 = ((d.length - 1 : Nat) : Int) from by omega, show (d.length : Int) - 2 = ((d.length - 2 : Nat) : Int) from by omega, show ((a + d.length : Nat) : Int) + 1 = ((a + d.length + 1 : Nat) : Int) from by omega]
    simp only [rd_nat, Int.toNat_natCast]
    refine Evt.ite_pos (by omega) (Evt.ite_pos (by omega) (Evt.ite_pos (by omega) (Evt.ite_pos (by omega) (Evt.ite_pos (by omega) (Evt.ite_pos (by omega) (Evt.ite_pos (by omega) (Evt.ite_pos (by omega) (Evt.ite_pos (by omega) (Evt.ite_pos (by omega) (Evt.ite_pos (by omega) ?_))))))))))
    refine Evt.bind g1 ?_
    refine Evt.ite_pos (by omega) (Evt.ite_pos (by omega) (Evt.ite_pos (by omega) ?_))
    refine long_l1 r d q ((r.take (a + d.length + 1)).drop a) sN (s : Int) (d.length : Int) gs a (by omega) (by omega) dpart dd hgs0 hfit s1 s4 (by omega) (by omega) ?_ (g - gs).toNat g hgg g2.2 (by omega)
    rw [← s4]
    exact hfin
theorem nat_long_ev (a b : List Int) (da : Dig (b64 : Int) a) (db : Dig (b64 : Int) b) (cb : Can b) (hb : 2 ≤ b.length) (hab : b.length ≤ a.length) (ha : a.length ≤ 390) :
    Evt (fun k => nat_long.f k a b) (limbs (num a / num b), limbs (num a % num b)) := by
  have hB : (b64 : Int) = 18446744073709551616 := rfl
  have ht := can_last cb (by omega)
  have htr := db.getD b64_pos (b.length - 1)
  rw [hB] at htr
  obtain ⟨t, htt⟩ : ∃ t, t = b.getD (b.length - 1) 0 := ⟨_, rfl⟩
  rw [← htt] at ht htr
  have hbl1 := bl_lt t.toNat
  have hbl2 : bl t.toNat ≤ 64 := bl_le (by omega)
  have hbl3 := bl_pos (n := t.toNat) (by omega)
  obtain ⟨s, hs⟩ : ∃ s, s = 64 - bl t.toNat := ⟨_, rfl⟩
  have hs64 : s < 64 := by omega
  obtain ⟨r, r1, r2, r3, r4⟩ := nat_up_ev a da (by omega) s hs64
  obtain ⟨e, e1, e2, e3, e4⟩ := nat_up_ev b db (by omega) s hs64
  -- the divisor, moved up, is as long as it was
  have v1 := vsplit (b64 : Int) b (b.length - 1) (by omega)
  rw [vdrop (b64 : Int) b (b.length - 1), show b.length - 1 + 1 = b.length from by omega, List.drop_length, ← htt] at v1
  simp only [val, Int.mul_zero, Int.add_zero] at v1
  have v2 := val_lt b64_pos (db.take (b.length - 1))
  rw [List.length_take, Nat.min_eq_left (by omega)] at v2
  have v3 := val_nonneg b64_pos (db.take (b.length - 1))
  have hnb := num_val db
  have hWp := pow_pos64' (b.length - 1)
  have hpc := pow_cast b64 (b.length - 1)
  have nlo : b64 ^ (b.length - 1) ≤ num b := by
    have h5 : (b64 : Int) ^ (b.length - 1) * 1 ≤ (b64 : Int) ^ (b.length - 1) * t := Int.mul_le_mul_of_nonneg_left (by omega) (by rw [hpc]; omega)
    rw [Int.mul_one] at h5
    omega
  have nhi : num b < b64 ^ (b.length - 1) * 2 ^ bl t.toNat := by
    have h5 : t + 1 ≤ ((2 ^ bl t.toNat : Nat) : Int) := by omega
    have h6 : (b64 : Int) ^ (b.length - 1) * (t + 1) ≤ (b64 : Int) ^ (b.length - 1) * ((2 ^ bl t.toNat : Nat) : Int) := Int.mul_le_mul_of_nonneg_left h5 (by rw [hpc]; omega)
    rw [Int.mul_add, Int.mul_one, hpc] at h6
    rw [hpc] at v1 v2
    have h7 : ((b64 ^ (b.length - 1) * 2 ^ bl t.toNat : Nat) : Int) = ((b64 ^ (b.length - 1) : Nat) : Int) * ((2 ^ bl t.toNat : Nat) : Int) := by simp
    omega
  have hP : 0 < 2 ^ s := Nat.pow_pos (by omega)
  have p64 : 2 ^ bl t.toNat * 2 ^ s = b64 := by
    rw [← Nat.pow_add, show bl t.toNat + s = 64 from by omega]
    rfl
  have dhi : num b * 2 ^ s < b64 ^ b.length := by
    have h6 := Nat.mul_lt_mul_of_pos_right nhi hP
    rw [Nat.mul_assoc, p64, ← Nat.pow_succ, show (b.length - 1).succ = b.length from by omega] at h6
    exact h6
  have dlo : b64 ^ (b.length - 1) ≤ num b * 2 ^ s := Nat.le_trans nlo (Nat.le_mul_of_pos_right _ hP)
  have dlen : (limbs (num b * 2 ^ s)).length = b.length := by
    have h6 := limbs_len' dhi
    have h7 : ¬ (limbs (num b * 2 ^ s)).length ≤ b.length - 1 := fun h => by
      have := (toD_len_iff b64_two (num b * 2 ^ s) (b.length - 1)).1 h
      omega
    omega
  have hvd : val (b64 : Int) (limbs (num b * 2 ^ s)) = ((num b * 2 ^ s : Nat) : Int) := val_toD b64_two _
  unfold nat_long.f
  rw [w64 (x := (b.length : Int) - 1) (by omega) (by omega)]
  refine Evt.ite_pos (by omega) (Evt.ite_pos (by omega) ?_)
  rw [show (b.length : Int) - 1 = ((b.length - 1 : Nat) : Int) from by omega, rd_nat, ← htt]
  have lz : Evt (fun k => bits_LeadingZeros64.f k t) (s : Int) := by
    unfold bits_LeadingZeros64.f
    refine (Evt.bind (bits_Len64_ev (x := t) (by omega) (by omega)) (h := fun t333 _ => some (wrap64 (64 - t333))) (Evt.pure _)).congr (fun k => rfl) ?_
    rw [w64 (by omega) (by omega)]
    omega
  refine Evt.bind lz ?_
  rw [wu64_of (by omega) (by omega)]
  refine Evt.bind r1 ?_
  refine Evt.bind e1 ?_
  refine Evt.bind (nat_trim_ev e (by simp [maxLen]; omega)) ?_
  rw [strip_limbs e2, e4, dlen, r3]
  rw [w64 (x := ((a.length + 1 : Nat) : Int) - (b.length : Int)) (by omega) (by omega), show ((a.length + 1 : Nat) : Int) - (b.length : Int) = ((a.length + 1 - b.length : Nat) : Int) from by omega, Int.toNat_natCast]
  refine Evt.ite_pos (by omega) (Evt.ite_pos (by omega) ?_)
  refine Evt.bind (Evt.pure _) ?_
  rw [List.length_replicate, w64 (by omega) (by omega)]
  have hmain := long_l0 s hs64 (limbs (num b * 2 ^ s)) (limbs_dig' _) (limbs_can' _) (by omega) (by omega) (val (b64 : Int) r) (a.length + 1 - b.length) (by omega) (a.length + 1 - b.length) r (List.replicate (a.length + 1 - b.length) 0) (Nat.le_refl _) (by omega) (by simp) r2 (Dig.replicate b64_pos _) (by
    have h6 := vsplit (b64 : Int) r (a.length + 1 - b.length) (by omega)
    have h7 := val_nonneg b64_pos (r2.take (a.length + 1 - b.length))
    have h8 := num_val r2
    rw [r4] at h8
    have h9 := num_lt da
    have h10 : num a * 2 ^ s < b64 ^ a.length * 2 ^ s := Nat.mul_lt_mul_of_pos_right h9 hP
    have h11 : b64 ^ a.length * 2 ^ s ≤ b64 ^ (a.length + 1 - b.length) * (num b * 2 ^ s) := by
      have : b64 ^ a.length = b64 ^ (a.length + 1 - b.length) * b64 ^ (b.length - 1) := by
        rw [← Nat.pow_add, show a.length + 1 - b.length + (b.length - 1) = a.length from by omega]
      rw [this, Nat.mul_assoc]
      exact Nat.mul_le_mul_left _ (Nat.mul_le_mul_right _ nlo)
    rw [hvd]
    refine Int.not_le.1 (fun hge => ?_)
    have h12 := Int.mul_le_mul_of_nonneg_left hge (show (0 : Int) ≤ (b64 : Int) ^ (a.length + 1 - b.length) by rw [pow_cast]; omega)
    have h13 : (b64 : Int) ^ (a.length + 1 - b.length) * ((num b * 2 ^ s : Nat) : Int) = ((b64 ^ (a.length + 1 - b.length) * (num b * 2 ^ s) : Nat) : Int) := by rw [pow_cast, ← Int.natCast_mul]
    rw [h13] at h12
    omega) (by
    rw [List.drop_of_length_le (by simp)]
    simp [val])
  rw [dlen] at hmain
  refine hmain.congr (fun k => rfl) ?_
  have h8 := num_val r2
  rw [hvd, ← h8, r4, show ((num a * 2 ^ s : Nat) : Int) / ((num b * 2 ^ s : Nat) : Int) = ((num a * 2 ^ s / (num b * 2 ^ s) : Nat) : Int) from rfl, show ((num a * 2 ^ s : Nat) : Int) % ((num b * 2 ^ s : Nat) : Int) = ((num a * 2 ^ s % (num b * 2 ^ s) : Nat) : Int) from rfl, Int.toNat_natCast, Int.toNat_natCast, Nat.mul_div_mul_right _ _ hP, Nat.mul_mod_mul_right, Nat.mul_div_cancel _ hP]
end Go.Proofs.Yteabkedhdgnhgab.Z
end

section
namespace Go.Proofs.Yteabkedhdgnhgab.Z
open Go.RowKit Go.Proofs.Yteabkedhdgnhgab.F Go.Proofs.YteabkedhdgnhgabW.PrintWords
set_option linter.unusedSimpArgs false
set_option linter.unusedVariables false
theorem drop_set_self (l : List Int) (i : Nat) (x : Int) (h : i < l.length) : (l.set i x).drop i = x :: l.drop (i + 1) := by
  rw [List.drop_eq_getElem_cons (by simpa using h), List.drop_set, if_pos (Nat.lt_succ_self i)]
  simp
theorem nat_short_loop (a : List Int) (d : Int) (da : Dig (b64 : Int) a) (ha : a.length ≤ 100000) (h0 : 0 < d) (h1 : d < 18446744073709551616) (n : Nat) :
    ∀ (out : List Int) (rest : Int), n ≤ a.length → out.length = a.length → Dig (b64 : Int) out → 0 ≤ rest ∧ rest < d → val (b64 : Int) (out.drop n) * d + rest = val (b64 : Int) (a.drop n) →
    Evt (fun k => nat_short.l0 k a d out rest ((n : Int) - 1)) (limbs (num a / d.toNat), ((num a % d.toNat : Nat) : Int)) := by
  induction n with
  | zero =>
    intro out rest hn ho do_ hr hv
    refine Evt.succ ?_
    simp only [nat_short.l0]
    refine Evt.ite_neg (by omega) ?_
    refine Evt.bind (nat_trim_ev out (by simp [maxLen]; omega)) ?_
    rw [strip_limbs do_]
    rw [List.drop_zero, List.drop_zero] at hv
    have e1 := num_val do_
    have e2 := num_val da
    have e3 : num a = num out * d.toNat + rest.toNat := by
      have : (num a : Int) = ((num out * d.toNat + rest.toNat : Nat) : Int) := by
        rw [Int.natCast_add, Int.natCast_mul, e1, e2, Int.toNat_of_nonneg (by omega), Int.toNat_of_nonneg hr.1]
        exact hv.symm
      omega
    have e4 : num a / d.toNat = num out := by
      rw [e3, Nat.mul_comm, Nat.mul_add_div (by omega), Nat.div_eq_of_lt (by omega), Nat.add_zero]
    have e5 : num a % d.toNat = rest.toNat := by
      rw [e3, Nat.mul_comm, Nat.mul_add_mod, Nat.mod_eq_of_lt (by omega)]
    rw [e4, e5, Int.toNat_of_nonneg hr.1]
    exact Evt.pure _
  | succ n ih =>
    intro out rest hn ho do_ hr hv
    refine Evt.succ ?_
    simp only [nat_short.l0]
    rw [show ((n + 1 : Nat) : Int) - 1 = (n : Int) from by omega, rd_nat, w64 (by omega) (by omega)]
    have hx := da.getD b64_pos n
    have hg : a.getD n 0 = a[n] := by simp [show n < a.length by omega]
    simp only [b64] at hx
    have hq0 : 0 ≤ (rest * 18446744073709551616 + a.getD n 0) / d := Int.ediv_nonneg (by omega) (by omega)
    have hq1 : (rest * 18446744073709551616 + a.getD n 0) / d < 18446744073709551616 := by
      apply Int.ediv_lt_of_lt_mul h0
      omega
    have hm0 := Int.emod_nonneg (rest * 18446744073709551616 + a.getD n 0) (show d ≠ 0 by omega)
    have hm1 := Int.emod_lt_of_pos (rest * 18446744073709551616 + a.getD n 0) h0
    have hm : (rest * 18446744073709551616 + a.getD n 0) % d + (rest * 18446744073709551616 + a.getD n 0) / d * d = rest * 18446744073709551616 + a.getD n 0 := by rw [Int.mul_comm (_ / d)]; exact Int.emod_add_mul_ediv _ _
    refine Evt.ite_pos (by omega) (Evt.ite_pos (by omega) (Evt.ite_pos (by omega) ?_))
    refine Evt.bind (bits_Div64_ev hr hx h1) ?_
    refine Evt.ite_pos (by omega) ?_
    rw [Int.toNat_natCast]
    refine ih _ _ (by omega) (by simpa using ho) (do_.set n ⟨hq0, hq1⟩) ⟨hm0, hm1⟩ ?_
    rw [drop_set_self _ _ _ (by omega), List.drop_eq_getElem_cons (show n < a.length by omega), ← hg]
    simp only [val, b64] at hv ⊢
    generalize (rest * 18446744073709551616 + a.getD n 0) / d = Q at *
    generalize (rest * 18446744073709551616 + a.getD n 0) % d = M at *
    generalize a.getD n 0 = x at *
    rw [← hv]
    generalize val _ (out.drop (n + 1)) = V at *
    have e : (Q + ((18446744073709551616 : Nat) : Int) * V) * d = Q * d + 18446744073709551616 * (V * d) := by
      rw [Int.add_mul, Int.mul_assoc]; rfl
    rw [e, Int.mul_add]
    omega
theorem nat_short_ev (a : List Int) (d : Int) (da : Dig (b64 : Int) a) (ha : a.length ≤ 100000) (h0 : 0 < d) (h1 : d < 18446744073709551616) :
    Evt (fun k => nat_short.f k a d) (limbs (num a / d.toNat), ((num a % d.toNat : Nat) : Int)) := by
  unfold nat_short.f
  refine Evt.ite_pos (by omega) (Evt.ite_pos (by omega) ?_)
  rw [Int.toNat_natCast, w64 (by omega) (by omega)]
  refine nat_short_loop a d da ha h0 h1 a.length _ 0 (Nat.le_refl _) (by simp) (Dig.replicate b64_pos _) ⟨by omega, h0⟩ ?_
  rw [List.drop_of_length_le (by simp), List.drop_of_length_le (by simp)]
  simp [val]
end Go.Proofs.Yteabkedhdgnhgab.Z
end

section
namespace Go.Proofs.Yteabkedhdgnhgab.Z
open Go.RowKit Go.Proofs.Yteabkedhdgnhgab.F Go.Proofs.YteabkedhdgnhgabW.PrintWords
set_option linter.unusedSimpArgs false
set_option linter.unusedVariables false
theorem nat_Right_eq {l : List Int} (h : l.length ≤ maxLen) : nat_Right.f l = some (rightB l) := by
  unfold maxLen at h
  unfold nat_Right.f rightB
  by_cases h1 : l.length ≤ 64
  · rw [if_pos (by omega)]
    by_cases h2 : l.length = 0
    · rw [if_pos (by omega)]
      simp [h1, h2]
    · rw [if_neg (by omega), w64 (by omega) (by omega), if_pos (by omega), if_pos (by omega), rd_getD]
      rw [show ((l.length : Int) - 1).toNat = l.length - 1 from by omega]
      have h3 : (l.length == 0) = false := by simpa using h2
      rw [h3]
      simp [h1]
  · rw [if_neg (by omega)]
    simp [h1]
end Go.Proofs.Yteabkedhdgnhgab.Z
end

section
namespace Go.Proofs.Yteabkedhdgnhgab.Z
open Go.RowKit Go.Proofs.Yteabkedhdgnhgab.F Go.Proofs.YteabkedhdgnhgabW.PrintWords
set_option linter.unusedSimpArgs false
set_option linter.unusedVariables false
theorem nat_right_eq (ls : List (List Int)) (h : ∀ l ∈ ls, l.length ≤ maxLen) : nat_right.f ls = some (ls.all rightB) := by
  induction ls with
  | nil => rfl
  | cons a ls ih =>
    simp only [nat_right.f]
    rw [nat_Right_eq (h a (by simp)), ih (fun l hl => h l (by simp [hl]))]
    simp only [Option.bind_some, List.all_cons]
    cases rightB a <;> simp
end Go.Proofs.Yteabkedhdgnhgab.Z
end

section
namespace Go.Proofs.Yteabkedhdgnhgab.Z
open Go.RowKit Go.Proofs.Yteabkedhdgnhgab.F Go.Proofs.YteabkedhdgnhgabW.PrintWords
set_option linter.unusedSimpArgs false
set_option linter.unusedVariables false
theorem nat_Div_ev (a b : List Int) (ha : a.length ≤ maxLen) (hb : b.length ≤ maxLen) (da : Dig (b64 : Int) a) (db : Dig (b64 : Int) b) : Evt (fun k => nat_Div.f k a b) (divV a b) := by
  unfold nat_Div.f divV
  rw [nat_right_eq _ (by intro l hl; simp at hl; rcases hl with rfl | rfl <;> assumption)]
  simp only [Option.bind_some, List.all_cons, List.all_nil, Bool.and_true, Bool.and_eq_true]
  by_cases h : rightB a = true ∧ rightB b = true
  · rw [if_pos h]
    refine Evt.ite_pos h ?_
    obtain ⟨h1, c1⟩ := (rightB_iff a).1 h.1
    obtain ⟨h2, c2⟩ := (rightB_iff b).1 h.2
    have hz := num_zero_iff db c2
    by_cases h0 : b.length = 0
    · rw [if_pos (hz.2 h0)]
      exact Evt.ite_pos (by omega) (Evt.pure _)
    · have hnz : num b ≠ 0 := fun e => h0 (hz.1 e)
      rw [if_neg hnz]
      refine Evt.ite_neg (by omega) ?_
      refine Evt.bind (nat_compare_ev a b da db c1 c2 (by omega)) ?_
      by_cases hlt : num a < num b
      · refine Evt.ite_pos (by unfold cmpN; rw [if_pos hlt]; omega) ?_
        refine Evt.bind (Evt.of (fun _ => clone_ev a (by omega))) ?_
        rw [Nat.div_eq_of_lt hlt, Nat.mod_eq_of_lt hlt, limbs_num da c1]
        rw [show limbs 0 = [] from toD_zero b64]
        exact Evt.pure _
      · refine Evt.ite_neg (by unfold cmpN; rw [if_neg hlt]; split <;> omega) ?_
        by_cases h3 : b.length = 1
        · obtain ⟨x, rfl⟩ : ∃ x, b = [x] := List.length_eq_one_iff.1 h3
          have hx := (Dig.cons.1 db).1
          have hx0 : num [x] = x.toNat := num_one hx.1
          refine Evt.ite_pos (by simp) (Evt.ite_pos (by simp) ?_)
          have hr : rd [x] 0 = x := rfl
          rw [hr]
          rw [hx0] at hnz ⊢
          have hB : (b64 : Int) = 18446744073709551616 := rfl
          rw [hB] at hx
          refine Evt.bind (nat_short_ev a x da (by omega) (by omega) hx.2) ?_
          refine (Evt.bind (nat_Of_ev ((num a % x.toNat : Nat) : Int)) (h := fun t _ => some (limbs (num a / x.toNat), t, (0 : Int))) (Evt.pure _)).congr (fun k => rfl) ?_
          have hm : num a % x.toNat < x.toNat := Nat.mod_lt _ (by omega)
          have dr : Dig (b64 : Int) [((num a % x.toNat : Nat) : Int)] := Dig.cons.2 ⟨by rw [hB]; omega, Dig.nil⟩
          rw [strip_limbs dr, num_one (by omega), Int.toNat_natCast]
        · refine Evt.ite_neg (by omega) ?_
          have hab := num_len_le db c2 da (by omega)
          exact Evt.bind (nat_long_ev a b da db c2 (by omega) hab (by omega)) (h := fun t _ => some (t.1, t.2, (0 : Int))) (Evt.pure _)
  · rw [if_neg h]
    exact Evt.ite_neg h (Evt.pure _)
end Go.Proofs.Yteabkedhdgnhgab.Z
end

section
namespace Go.Proofs.Yteabkedhdgnhgab.Z
open Go.RowKit Go.Proofs.Yteabkedhdgnhgab.F Go.Proofs.YteabkedhdgnhgabW.PrintWords
set_option linter.unusedSimpArgs false
set_option linter.unusedVariables false
def mulV (a b : List Int) : List Int × Int := if rightB a = true ∧ rightB b = true then toldV (num a * num b) else ([], 1)
theorem nat_Mul_ev (a b : List Int) (ha : a.length ≤ maxLen) (hb : b.length ≤ maxLen) (da : Dig (b64 : Int) a) (db : Dig (b64 : Int) b) : Evt (fun k => nat_Mul.f k a b) (mulV a b) := by
  unfold nat_Mul.f mulV
  rw [nat_right_eq _ (by intro l hl; simp at hl; rcases hl with rfl | rfl <;> assumption)]
  simp only [Option.bind_some, List.all_cons, List.all_nil, Bool.and_true, Bool.and_eq_true]
  by_cases h : rightB a = true ∧ rightB b = true
  · rw [if_pos h]
    refine Evt.ite_pos h ?_
    obtain ⟨h1, c1⟩ := (rightB_iff a).1 h.1
    obtain ⟨h2, c2⟩ := (rightB_iff b).1 h.2
    have e : nat_product.f a b = some (limbs (num a * num b)) := by
      unfold nat_product.f
      rw [if_pos (by simp only [dig_limbB da, dig_limbB db, Bool.and_true, Bool.and_eq_true, decide_eq_true_eq]; omega)]
    refine Evt.bind (Evt.of fun _ => e) ?_
    have hl : (limbs (num a * num b)).length ≤ 128 := by
      refine toD_len_le b64_two ?_
      have g1 := num_lt_p da h1
      have g2 := num_lt_p db h2
      have g3 := Nat.mul_lt_mul'' g1 g2
      rw [← Nat.pow_add] at g3
      exact g3
    have ht := nat_told_ev (limbs (num a * num b)) (by omega) (toD_dig b64_two _)
    rw [num_limbs] at ht
    exact Evt.bind ht (h := fun t _ => some (t.1, t.2)) (Evt.pure _)
  · rw [if_neg h]
    exact Evt.ite_neg h (Evt.pure _)
end Go.Proofs.Yteabkedhdgnhgab.Z
end

section
namespace Go.Proofs.Yteabkedhdgnhgab.Z
open Go.RowKit Go.Proofs.Yteabkedhdgnhgab.F Go.Proofs.YteabkedhdgnhgabW.PrintWords
set_option linter.unusedSimpArgs false
set_option linter.unusedVariables false
def addV (a b : List Int) : List Int × Int := if rightB a = true ∧ rightB b = true then toldV (num a + num b) else ([], 1)
theorem nat_Add_ev (a b : List Int) (ha : a.length ≤ maxLen) (hb : b.length ≤ maxLen) (da : Dig (b64 : Int) a) (db : Dig (b64 : Int) b) : Evt (fun k => nat_Add.f k a b) (addV a b) := by
  unfold nat_Add.f addV
  rw [nat_right_eq _ (by intro l hl; simp at hl; rcases hl with rfl | rfl <;> assumption)]
  simp only [Option.bind_some, List.all_cons, List.all_nil, Bool.and_true, Bool.and_eq_true]
  by_cases h : rightB a = true ∧ rightB b = true
  · rw [if_pos h]
    refine Evt.ite_pos h ?_
    obtain ⟨h1, c1⟩ := (rightB_iff a).1 h.1
    obtain ⟨h2, c2⟩ := (rightB_iff b).1 h.2
    obtain ⟨s, e1, e2, e3, e4⟩ := nat_sum_ev a b (by omega) (by omega) da db
    refine Evt.bind e1 ?_
    rw [← e3]
    exact Evt.bind (nat_told_ev s (by omega) e2) (h := fun t _ => some (t.1, t.2)) (Evt.pure _)
  · rw [if_neg h]
    exact Evt.ite_neg h (Evt.pure _)
end Go.Proofs.Yteabkedhdgnhgab.Z
end

section
namespace Go.Proofs.Yteabkedhdgnhgab.Z
open Go.RowKit Go.Proofs.Yteabkedhdgnhgab.F Go.Proofs.YteabkedhdgnhgabW.PrintWords
set_option linter.unusedSimpArgs false
set_option linter.unusedVariables false
/-- What Cmp is. -/
def cmpV (a b : List Int) : Int := if rightB a = true ∧ rightB b = true then cmpN (num a) (num b) else 0
theorem nat_Cmp_ev (a b : List Int) (ha : a.length ≤ maxLen) (hb : b.length ≤ maxLen) (da : Dig (b64 : Int) a) (db : Dig (b64 : Int) b) : Evt (fun k => nat_Cmp.f k a b) (cmpV a b) := by
  unfold nat_Cmp.f cmpV
  rw [nat_right_eq _ (by intro l hl; simp at hl; rcases hl with rfl | rfl <;> assumption)]
  simp only [Option.bind_some, List.all_cons, List.all_nil, Bool.and_true, Bool.and_eq_true]
  by_cases h : rightB a = true ∧ rightB b = true
  · rw [if_pos h]
    refine Evt.ite_pos h ?_
    obtain ⟨h1, c1⟩ := (rightB_iff a).1 h.1
    obtain ⟨h2, c2⟩ := (rightB_iff b).1 h.2
    exact Evt.bind (nat_compare_ev a b da db c1 c2 (by omega)) (h := fun t _ => some t) (Evt.pure _)
  · rw [if_neg h]
    exact Evt.ite_neg h (Evt.pure _)
end Go.Proofs.Yteabkedhdgnhgab.Z
end

section
namespace Go.Proofs.Yteabkedhdgnhgab.Z
open Go.RowKit Go.Proofs.Yteabkedhdgnhgab.F Go.Proofs.YteabkedhdgnhgabW.PrintWords
set_option linter.unusedSimpArgs false
set_option linter.unusedVariables false
theorem windbreakref01_Right_eq {l : List Int} (h : l.length ≤ maxLen) : windbreakref01_Right.f l = some (rightB l) := by
  unfold maxLen at h
  unfold windbreakref01_Right.f rightB
  by_cases h1 : l.length ≤ 64
  · rw [if_pos (by omega)]
    by_cases h2 : l.length = 0
    · rw [if_pos (by omega)]
      simp [h1, h2]
    · rw [if_neg (by omega), w64 (by omega) (by omega), if_pos (by omega), if_pos (by omega), rd_getD]
      rw [show ((l.length : Int) - 1).toNat = l.length - 1 from by omega]
      have h3 : (l.length == 0) = false := by simpa using h2
      rw [h3]
      simp [h1]
  · rw [if_neg (by omega)]
    simp [h1]
end Go.Proofs.Yteabkedhdgnhgab.Z
end

section
namespace Go.Proofs.Yteabkedhdgnhgab.Z
open Go.RowKit Go.Proofs.Yteabkedhdgnhgab.F Go.Proofs.YteabkedhdgnhgabW.PrintWords
set_option linter.unusedSimpArgs false
set_option linter.unusedVariables false
theorem same_loop (l m : List Int) (h : l.length ≤ maxLen) (hlm : l.length = m.length) (d : Nat) : ∀ i : Nat, i ≤ l.length → l.length - i = d → Evt (fun k => windbreakref01_Same.l0 k l m (i : Int)) (decide (l.drop i = m.drop i)) := by
  unfold maxLen at h
  induction d with
  | zero =>
    intro i hi hd
    refine Evt.succ ?_
    simp only [windbreakref01_Same.l0]
    refine Evt.ite_neg (by omega) ?_
    rw [List.drop_of_length_le (by omega), List.drop_of_length_le (by omega)]
    exact Evt.pure _
  | succ d ih =>
    intro i hi hd
    have hl : i < l.length := by omega
    have hm : i < m.length := by omega
    refine Evt.succ ?_
    simp only [windbreakref01_Same.l0]
    refine Evt.ite_pos (by omega) (Evt.ite_pos (by omega) (Evt.ite_pos (by omega) ?_))
    have e1 : rd l (i : Int) = l[i] := by simp [rd_nat, hl]
    have e2 : rd m (i : Int) = m[i] := by simp [rd_nat, hm]
    rw [e1, e2, w64 (by omega) (by omega), List.drop_eq_getElem_cons hl, List.drop_eq_getElem_cons hm]
    by_cases he : l[i] = m[i]
    · refine Evt.ite_pos he ?_
      refine (ih (i + 1) (by omega) (by omega)).congr (fun k => rfl) ?_
      rw [he]
      simp only [List.cons.injEq, true_and]
    · refine Evt.ite_neg he ?_
      have : decide (l[i] :: l.drop (i + 1) = m[i] :: m.drop (i + 1)) = false := by
        simp only [List.cons.injEq, decide_eq_false_iff_not]
        exact fun hh => he hh.1
      rw [this]
      exact Evt.pure _
theorem same_ev (l m : List Int) (h : l.length ≤ maxLen) : Evt (fun k => windbreakref01_Same.f k l m) (decide (l = m)) := by
  unfold windbreakref01_Same.f
  by_cases hlm : l.length = m.length
  · refine Evt.ite_pos (by omega) ?_
    exact (same_loop l m h hlm l.length 0 (Nat.zero_le _) (by omega)).congr (fun k => rfl) (by simp)
  · refine Evt.ite_neg (by omega) ?_
    have : decide (l = m) = false := by
      simp only [decide_eq_false_iff_not]
      intro e
      exact hlm (by rw [e])
    rw [this]
    exact Evt.pure _
end Go.Proofs.Yteabkedhdgnhgab.Z
end

section
namespace Go.Proofs.Yteabkedhdgnhgab.Pure
open Go.RowKit Go.Proofs.Yteabkedhdgnhgab.F Go.Proofs.Yteabkedhdgnhgab.Z
set_option linter.unusedSimpArgs false
set_option linter.unusedVariables false
theorem right_limbs {v : Nat} (h : v < b64 ^ 64) : rightB (limbs v) = true := (rightB_iff _).2 ⟨(limbs_long v).2 h, toD_can b64_two v⟩
theorem NatBack : windbreaklaw01_NatBack.Pure := by
  intro a b ha _ wa hb _ wb
  apply Evt.get
  have da := dig_of_wf wa
  have db := dig_of_wf wb
  have d1 : Dig (b64 : Int) [1] := by intro x hx; simp at hx; subst hx; decide
  have J : ∀ x : Bool, (x = false → rightB a = true ∧ rightB b = true ∧ b.length ≠ 0) → Evt (fun k => windbreaklaw01_NatBack.j0 k a b x) true := by
    intro x hx
    refine Evt.succ ?_
    simp only [windbreaklaw01_NatBack.j0]
    refine Evt.cond' (fun _ => Evt.pure _) (fun hc => ?_)
    obtain ⟨hA, hB, h0⟩ := hx (by simpa using hc)
    obtain ⟨h1, c1⟩ := (rightB_iff a).1 hA
    obtain ⟨h2, c2⟩ := (rightB_iff b).1 hB
    have hnz : num b ≠ 0 := fun e => h0 ((num_zero_iff db c2).1 e)
    have n1 := num_lt_p da h1
    have e1 : num a / num b ≤ num a := Nat.div_le_self _ _
    have e2 : num a % num b ≤ num a := Nat.mod_le _ _
    have e3 : num a % num b < num b := Nat.mod_lt _ (by omega)
    have e4 : num a / num b * num b + num a % num b = num a := by rw [Nat.mul_comm]; exact Nat.div_add_mod _ _
    have hdiv : divV a b = (limbs (num a / num b), limbs (num a % num b), 0) := by unfold divV; rw [if_pos ⟨hA, hB⟩, if_neg hnz]
    have hl1 : (limbs (num a / num b)).length ≤ 64 := (limbs_long _).2 (by omega)
    have hl2 : (limbs (num a % num b)).length ≤ 64 := (limbs_long _).2 (by omega)
    have hl3 : (limbs (num a / num b * num b)).length ≤ 64 := (limbs_long _).2 (by omega)
    have dg : ∀ v, Dig (b64 : Int) (limbs v) := fun v => toD_dig b64_two v
    have hd := nat_Div_ev a b ha hb da db
    rw [hdiv] at hd
    refine Evt.bind hd ?_
    have hm := nat_Mul_ev (limbs (num a / num b)) b (by simp only [maxLen]; omega) hb (dg _) db
    have hmv : mulV (limbs (num a / num b)) b = (limbs (num a / num b * num b), 0) := by
      unfold mulV toldV
      rw [if_pos ⟨right_limbs (by omega), hB⟩, num_limbs, if_pos (by omega)]
    rw [hmv] at hm
    refine Evt.bind hm ?_
    have hs := nat_Add_ev (limbs (num a / num b * num b)) (limbs (num a % num b)) (by simp only [maxLen]; omega) (by simp only [maxLen]; omega) (dg _) (dg _)
    have hsv : addV (limbs (num a / num b * num b)) (limbs (num a % num b)) = (a, 0) := by
      unfold addV toldV
      rw [if_pos ⟨right_limbs (by omega), right_limbs (by omega)⟩, num_limbs, num_limbs, e4, if_pos n1, limbs_num da c1]
    rw [hsv] at hs
    refine Evt.bind hs ?_
    refine Evt.bind (same_ev _ _ ha) ?_
    refine Evt.bind (nat_Cmp_ev (limbs (num a % num b)) b (by simp only [maxLen]; omega) hb (dg _) db) ?_
    refine Evt.bind (nat_Div_ev [1] [1] (by simp [maxLen]) (by simp [maxLen]) d1 d1) ?_
    refine Evt.ite_pos rfl (Evt.ite_pos rfl (Evt.ite_pos rfl (Evt.ite_pos (by simp) (Evt.ite_pos ?_ ?_))))
    · unfold cmpV cmpN
      rw [if_pos ⟨right_limbs (by omega), hB⟩, num_limbs, if_pos e3]
    · rw [divV_one]
      exact Evt.pure _
  unfold windbreaklaw01_NatBack.f
  rw [windbreakref01_Right_eq ha, windbreakref01_Right_eq hb]
  simp only [Option.bind_some]
  cases hA : rightB a with
  | true =>
    refine Evt.ite_pos rfl ?_
    cases hB : rightB b with
    | true => exact Evt.ite_pos rfl (J _ (fun h => ⟨hA, hB, fun e => by rw [e] at h; simp at h⟩))
    | false => exact Evt.ite_neg (by simp) (J _ (fun h => by simp at h))
  | false => exact Evt.ite_neg (by simp) (J _ (fun h => by simp at h))
end Go.Proofs.Yteabkedhdgnhgab.Pure
end

section
-- PRINTED BY print.sh 35421559b90ae4d0a3588c463048766b98c2df88dd9212a6774a882060cdf62d: not written by this session
-- PRINTED WORDS (module Derived/Print/Sized.lean): go-gate-2's, for the rows of laws over slices: an AI agent of Go's test side, Tue Nov 17 2026; no person has read it. Lean checks it.
namespace Go.Proofs.YteabkedhdgnhgabW.PrintWords
open Go.ChangeShapes Go.WideShapes
/-- A row's slice of whole numbers is no longer than its weight allows. -/
theorem sized_ints {H : Type} {enc : TypeId × Value → H} {P : Program} {W : World} {base : Nat} {spare : Nat → Bool} {held : Bool} {t e : TypeId} {k : IntKind} {a : Option Addr} {len cap : Nat} {d : DataW H} {ps : List MemPlace} {ts : List TypeId} {ds : List (DataW H)} {j : Nat}
    (hsz : (DataW.weightsEach P ts ds).all (· ≤ reachBytes) = true) (ht : ts[j]? = some t) (hd : ds[j]? = some d) (hu : P.underlying t = some (.slice e)) (he : P.underlying e = some (.int k)) (hc : P.cellsOf e = 1) {B : Nat} (hB : P.bytesOf e = B)
    (h : DataW.Trod enc P W base spare held t (.slice a len cap) d ps) : len * B ≤ 140737488351232 := by
  obtain ⟨fuel, hf⟩ := h
  rcases open_ints hu he hc hf with ⟨hcs, _⟩ | ⟨x, l, c, zs, hcs, _, hl, _, hz, hx, _, _⟩
  · simp [Value.cells] at hcs
    obtain ⟨rfl, rfl, rfl⟩ := hcs
    simp
  · simp [Value.cells] at hcs
    obtain ⟨rfl, rfl, rfl⟩ := hcs
    obtain ⟨hx, _⟩ := Prod.mk.inj hx
    subst hx
    have z := sized_slice hsz ht hd hu
    rw [hB] at z
    have hl2 : len ≤ zs.length := by
      rw [hz]
      split
      · exact hl
      · exact Nat.le_refl _
    have h1 : (lits (H := H) k (zs.take len)).length + (lits (H := H) k (zs.drop len)).length = zs.length := by
      simp [lits]
      omega
    rw [h1] at z
    exact Nat.le_trans (Nat.mul_le_mul_right _ hl2) z
end Go.Proofs.YteabkedhdgnhgabW.PrintWords
end

section
namespace Go.Proofs.Yteabkedhdgnhgab.natBack
open Go.ChangeShapes Go.WideShapes Go.ChangeAt Go.RowKit
open Go.ChangeMaps (open_string shut_string)
set_option linter.unusedVariables false
theorem own : ownKnob Try.prog.godebug = none := by kernel_rfl
theorem laidOut : laidOutB Try.prog = true := by kernel_rfl
def IsRow (k : IntKind) (w : World) (a : Option Addr) (len cap : Nat) (zs : List Int) : Prop :=
  (a = none ∧ len = 0 ∧ cap = 0 ∧ zs = []) ∨
  ∃ x, a = some x ∧ len ≤ cap ∧ cap ≤ maxLen ∧ zs.length = cap ∧ (∀ i, i < zs.length → w.cell? (x.add i) = some (.int k (zs.getD i 0))) ∧ ∀ n ∈ zs, (Lit.int k n).wf = true
set_option maxRecDepth 100000 in
theorem lifted (os : Os) (started : os.Started) (H : Type) (enc : TypeId × Value → H) :
    ReturnsInHanded {} Try.checked os 7 .any (Rows.natBackSpec.pre6 enc Try.prog Try.f7 Rows.natBackRow.domain false) (Rows.natBackSpec.post enc Try.prog Try.f7 false true false false) := by
  refine returnsInHanded_of_change_sized (C := Try.checked) own started (by kernel_rfl) Try.func7
    (ChangeSpec.witness6 (enc := enc) (C := Try.checked) false ⟨#[], #[.slice none 0 0, .slice none 0 0], []⟩ 8 (by kernel_rfl) (by kernel_rfl) (by kernel_rfl) (by kernel_rfl)) ?_
  intro W base args ds gs before hval0 hW hcnd hsz0 _
  have hsz : (DataW.weightsEach Try.prog (Try.f7.params.toList ++ Rows.natBackSpec.plain.varTypes Try.prog) (ds ++ gs)).all (· ≤ reachBytes) = true := hsz0
  have hval : ∀ (j : Nat) t v, Try.f7.params[j]? = some t → args[j]? = some v → Value.okWide Try.prog W .any base t v := hval0
  have hW' := hW
  obtain ⟨p, q, hA0, hV, rfl, hfz, hnd⟩ := hW
  have hA : DataW.TrodAll enc Try.prog W 0 (fun _ => true) true Try.f7.params.toList args.toList ds p := hA0
  rw [Try.params7] at hA hval hsz
  obtain ⟨v0, vs0, d0, ds0, p0, q0, hargs, rfl, rfl, h0, r0⟩ := trodAll_cons hA
  obtain ⟨v1, vs1, d1, ds1, p1, q1, rfl, rfl, rfl, h1, r1⟩ := trodAll_cons r0
  obtain ⟨rfl, rfl, rfl⟩ := trodAll_nil r1
  obtain rfl : args = #[v0, v1] := by cases args; simp_all
  obtain ⟨rfl, rfl⟩ := trodVars_none hV
  obtain ⟨a0, len0, cap0, rfl⟩ := okWide_slice Try.underlying23 (hval 0 23 v0 rfl rfl)
  have k0 := h0
  have lt0 : ∀ x ∈ p0, x.block < W.heap.size := by obtain ⟨m, hm⟩ := k0; exact DataW.trod_lt m _ _ _ hm
  obtain ⟨z0, w0⟩ : ∃ zs, IsRow .u64 W a0 len0 cap0 zs := by
    obtain ⟨fuel, hf⟩ := h0
    rcases open_ints Try.underlying23 Try.underlying29 (by kernel_rfl) hf with ⟨hcs, _⟩ | ⟨x, l, c, zs, hcs, _, hl, hm, hz, _, hcell, hwz⟩
    · simp [Value.cells] at hcs
      obtain ⟨rfl, rfl, rfl⟩ := hcs
      exact ⟨[], .inl ⟨rfl, rfl, rfl, rfl⟩⟩
    · simp [Value.cells] at hcs
      obtain ⟨rfl, rfl, rfl⟩ := hcs
      exact ⟨zs, .inr ⟨_, rfl, hl, hm, by simpa using hz, hcell, hwz⟩⟩
  have y0 : len0 * 8 ≤ 140737488351232 := Go.Proofs.YteabkedhdgnhgabW.PrintWords.sized_ints hsz (j := 0) (t := 23) rfl rfl Try.underlying23 Try.underlying29 (by kernel_rfl) (by kernel_rfl) h0
  obtain ⟨a1, len1, cap1, rfl⟩ := okWide_slice Try.underlying23 (hval 1 23 v1 rfl rfl)
  have k1 := h1
  have lt1 : ∀ x ∈ p1, x.block < W.heap.size := by obtain ⟨m, hm⟩ := k1; exact DataW.trod_lt m _ _ _ hm
  obtain ⟨z1, w1⟩ : ∃ zs, IsRow .u64 W a1 len1 cap1 zs := by
    obtain ⟨fuel, hf⟩ := h1
    rcases open_ints Try.underlying23 Try.underlying29 (by kernel_rfl) hf with ⟨hcs, _⟩ | ⟨x, l, c, zs, hcs, _, hl, hm, hz, _, hcell, hwz⟩
    · simp [Value.cells] at hcs
      obtain ⟨rfl, rfl, rfl⟩ := hcs
      exact ⟨[], .inl ⟨rfl, rfl, rfl, rfl⟩⟩
    · simp [Value.cells] at hcs
      obtain ⟨rfl, rfl, rfl⟩ := hcs
      exact ⟨zs, .inr ⟨_, rfl, hl, hm, by simpa using hz, hcell, hwz⟩⟩
  have y1 : len1 * 8 ≤ 140737488351232 := Go.Proofs.YteabkedhdgnhgabW.PrintWords.sized_ints hsz (j := 1) (t := 23) rfl rfl Try.underlying23 Try.underlying29 (by kernel_rfl) (by kernel_rfl) h1
  clear hA0 hval0 hsz0 hsz
  refine (F.windbreaklaw01_NatBack.walk Pure.NatBack a0 len0 cap0 z0 a1 len1 cap1 z1 W w0 y0 w1 y1).mono fun e W' ⟨he, bel⟩ => ?_
  subst he
  exact ⟨_, rfl, _, _, _, [], _, [], hW', trodAll_mk1 (shut_bool Try.underlying4 _), (trodAll_cons_mk (Below.trod laidOut (by kernel_rfl) (of_decide_eq_true (by kernel_rfl)) k0 bel lt0) (trodAll_cons_mk (Below.trod laidOut (by kernel_rfl) (of_decide_eq_true (by kernel_rfl)) k1 bel lt1) trodAll_mk0)), rfl, bel.frame _, fun h => by cases h⟩
theorem over : Rows.natBackRow.holds Try.pinned (OpenSpec.ofChange Rows.natBackSpec) :=
  OpenClaim.holds_of_wide 7 Try.f7 rfl rfl rfl rfl rfl rfl rfl ⟨rfl, rfl, rfl, rfl, rfl⟩ rfl rfl rfl rfl rfl (by kernel_rfl) Try.func7 (by kernel_rfl)
    (of_decide_eq_true (by kernel_rfl)) (by unfold Func.isWrapper; first | (rw [if_pos (by decide +kernel)]; kernel_rfl) | (rw [if_neg (by decide +kernel)]; exact ⟨rfl, rfl⟩))
    (fun os started H enc _ => lifted os started H enc)
theorem proved : Rows.NatBackSaid := over
#print axioms proved
end Go.Proofs.Yteabkedhdgnhgab.natBack
namespace Go.Proofs.Yteabkedhdgnhgab
/-- The row, under a short name, for the claim. -/
theorem natBack_holds : Rows.NatBackSaid := natBack.proved
end Go.Proofs.Yteabkedhdgnhgab
end
