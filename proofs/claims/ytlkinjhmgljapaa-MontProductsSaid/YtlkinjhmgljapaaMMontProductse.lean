/- Proved: the law MontProducts of layer 2: any product in the form of any ring is the document's; for every input, without a condition. -/
import Derived.Test.YtlkinjhmgljapaaMMontProductsd
import Derived.SizedLaws
import Derived.ChangeSlices
import Derived.Test.YtlkinjhmgljapaaRows
import Derived.WalkKit
import Derived.ProofKit
import Derived.OpenShut
import Derived.ShutString
import Derived.ChangeOld
import Derived.Below
section
namespace Go.Proofs.Ytlkinjhmgljapaa.Z
open Go.RowKit Go.Proofs.Ytlkinjhmgljapaa.F Go.Proofs.YtlkinjhmgljapaaW.PrintWords Go.Proofs.YtlkinjhmgljapaaW.PrintMore
set_option linter.unusedSimpArgs false
set_option linter.unusedVariables false
theorem limbs_dig' (v : Nat) : Dig (b64 : Int) (limbs v) := toD_dig b64_two v
theorem limbs_can' (v : Nat) : Can (limbs v) := toD_can b64_two v
theorem limbs_len' {v n : Nat} (h : v < b64 ^ n) : (limbs v).length ≤ n := toD_len_le b64_two h
theorem pow_pos64' (n : Nat) : 0 < b64 ^ n := Nat.pow_pos (by decide)
theorem num_strip' {l : List Int} (d : Dig (b64 : Int) l) : num (strip l) = num l := by rw [strip_limbs d, num_limbs]
theorem vdrop (B : Int) (a : List Int) (j : Nat) : val B (a.drop j) = a.getD j 0 + B * val B (a.drop (j + 1)) := by
  by_cases h : j < a.length
  · rw [List.drop_eq_getElem_cons h]
    simp [val, List.getD_eq_getElem?_getD, h]
  · rw [List.drop_of_length_le (by omega), List.drop_of_length_le (by omega)]
    simp [val, List.getD_eq_getElem?_getD, Nat.le_of_not_lt h]
theorem vsplit (B : Int) (a : List Int) (j : Nat) (hj : j ≤ a.length) : val B a = val B (a.take j) + B ^ j * val B (a.drop j) := by
  have := val_append B (a.take j) (a.drop j)
  rw [List.take_append_drop, List.length_take, Nat.min_eq_left hj] at this
  exact this
theorem clone_ev (l : List Int) (h : l.length ≤ 100000) : api_Nat_uint64.f l = some l := by
  unfold api_Nat_uint64.f
  simp only [Option.bind_some, List.nil_append, List.length_nil]
  rw [if_pos (by omega)]
theorem long_l2 (a q : List Int) (da : Dig (b64 : Int) a) (ha : a.length ≤ 100000) (hq : q.length ≤ 100000) (s : Nat) (hs : s < 64) (n : Nat) :
    ∀ (i : Nat) (p : List Int), a.length - i = n → i ≤ a.length → p.length = i → p ++ downL s (a.drop i) = downL s a →
      Evt (fun k => nat_long.l2 k (s : Int) q a (p ++ List.replicate n 0) (a.length : Int) (i : Int)) (strip q, strip (downL s a)) := by
  induction n with
  | zero =>
    intro i p hn hi hp he
    refine Evt.succ ?_
    simp only [nat_long.l2]
    refine Evt.ite_neg (by omega) ?_
    rw [List.drop_of_length_le (by omega)] at he
    simp only [downL, List.append_nil] at he
    rw [List.replicate_zero, List.append_nil, he]
    have hdl := (downL_facts s hs a da).2.1
    exact Evt.bind (nat_trim_ev q (by simp [maxLen]; omega)) (Evt.bind (nat_trim_ev (downL s a) (by simp [maxLen]; omega)) (h := fun t _ => some (strip q, t)) (Evt.pure _))
  | succ n ih =>
    intro i p hn hi hp he
    have hlt : i < a.length := by omega
    have rx := da a[i] (List.getElem_mem hlt)
    have ry := (da.drop (i + 1)).getD b64_pos 0
    have hB : (b64 : Int) = 18446744073709551616 := rfl
    rw [hB] at rx ry
    rw [List.drop_eq_getElem_cons hlt] at he
    simp only [downL] at he
    have hx : rd a (i : Int) = a[i] := by simp [rd_nat, hlt]
    refine Evt.succ ?_
    simp only [nat_long.l2]
    refine Evt.ite_pos (by omega) (Evt.ite_pos (by omega) (Evt.ite_pos (by omega) (Evt.ite_pos (by omega) (Evt.ite_pos (by simp; omega) ?_))))
    refine Evt.bind (Evt.pure _) ?_
    rw [hx, shr_u64 _ s (by omega), show ((i : Int)).toNat = p.length from by omega, List.replicate_succ, set_at, w64 (show -9223372036854775808 ≤ (i : Int) + 1 by omega) (by omega)]
    have hps := pow2_pos s
    have hxd0 : 0 ≤ a[i] / 2 ^ s := Int.ediv_nonneg rx.1 (by omega)
    by_cases h0 : s = 0
    · refine Evt.ite_neg (by omega) ?_
      rw [if_pos h0, Int.add_zero] at he
      refine (ih (i + 1) (p ++ [a[i] / 2 ^ s]) (by omega) (by omega) (by simp; omega) (by rw [List.append_assoc]; exact he)).congr (fun k => ?_) rfl
      rw [List.append_assoc]; rfl
    · refine Evt.ite_pos (by omega) ?_
      rw [if_neg h0] at he
      by_cases h1 : i + 1 < a.length
      · refine Evt.ite_pos (by omega) (Evt.ite_pos (by omega) (Evt.ite_pos (by rw [wu64_of (by omega) (by omega)]; omega) ?_))
        have hy : rd a ((i : Int) + 1) = a[i + 1] := by
          rw [show (i : Int) + 1 = ((i + 1 : Nat) : Int) from by omega, rd_nat]
          simp [List.getD_eq_getElem?_getD, h1]
        have hy2 : (a.drop (i + 1)).getD 0 0 = a[i + 1] := by simp [List.getD_eq_getElem?_getD, h1]
        have hg : rd (p ++ a[i] / 2 ^ s :: List.replicate n 0) (i : Int) = a[i] / 2 ^ s := by
          rw [rd_nat]
          simp [List.getD_eq_getElem?_getD, ← hp]
        rw [hy2] at he ry
        obtain ⟨f1, f2, f3, f4⟩ := shl_facts ry (s := 64 - s) (by omega)
        have hxd1 : a[i] / 2 ^ s < 2 ^ (64 - s) := by
          apply Int.ediv_lt_of_lt_mul hps
          rw [Int.mul_comm, pow64_split (by omega)]
          exact rx.2
        have hz0 : 0 ≤ (a[i + 1] * 2 ^ (64 - s)) % 18446744073709551616 := by omega
        have hz1 : (a[i + 1] * 2 ^ (64 - s)) % 18446744073709551616 < 18446744073709551616 := by omega
        have hq64 : (2 : Int) ^ (64 - s) ≤ 2 ^ 64 := pow_mono (by omega) (by omega)
        rw [hy, hg, wu64_of (show (0 : Int) ≤ 64 - (s : Int) by omega) (by omega), show (64 : Int) - (s : Int) = ((64 - s : Nat) : Int) from by omega, shl_u64 _ (64 - s) (by omega), set_at, or_comm_u64 hxd0 (by omega) hz0 hz1, or_u64 (64 - s) (by omega) hz0 f2 hz1 hxd0 hxd1]
        refine (ih (i + 1) (p ++ [(a[i + 1] * 2 ^ (64 - s)) % 18446744073709551616 + a[i] / 2 ^ s]) (by omega) (by omega) (by simp; omega) (by rw [List.append_assoc, Int.add_comm ((a[i + 1] * 2 ^ (64 - s)) % 18446744073709551616)]; exact he)).congr (fun k => ?_) rfl
        rw [List.append_assoc]; rfl
      · refine Evt.ite_neg (by omega) ?_
        have hy2 : (a.drop (i + 1)).getD 0 0 = 0 := by rw [List.drop_of_length_le (by omega)]; rfl
        rw [hy2, Int.zero_mul, Int.zero_emod, Int.add_zero] at he
        refine (ih (i + 1) (p ++ [a[i] / 2 ^ s]) (by omega) (by omega) (by simp; omega) (by rw [List.append_assoc]; exact he)).congr (fun k => ?_) rfl
        rw [List.append_assoc]; rfl
theorem long_l1 (r d q part sN : List Int) (s dk gs : Int) (a : Nat) (hpart : part.length ≤ 1000) (hdl : d.length ≤ 1000) (dp : Dig (b64 : Int) part) (dd : Dig (b64 : Int) d) (hg0 : 0 ≤ gs)
    (hfit : ∀ g : Int, 0 ≤ g → (num d * g.toNat ≤ num part ↔ g ≤ gs)) (hs : Evt (fun k => nat_less.f k part (limbs (num d * gs.toNat))) sN) (hsl : sN.length = part.length) (haq : a < q.length) (ha : a ≤ 1000000)
    {res : List Int × List Int} (fin : Evt (fun k => nat_long.l0 k s (r.take a ++ (sN ++ r.drop (a + part.length))) d dk (q.set a gs) ((a : Int) - 1)) res) (n : Nat) :
    ∀ g : Int, gs ≤ g → g < 18446744073709551616 → g - gs ≤ n → Evt (fun k => nat_long.l1 k s r d dk q (a : Int) g part) res := by
  have step : ∀ g : Int, gs ≤ g → g < 18446744073709551616 → (gs < g → Evt (fun k => nat_long.l1 k s r d dk q (a : Int) (IntKind.u64.wrap (g - 1)) part) res) → Evt (fun k => nat_long.l1 k s r d dk q (a : Int) g part) res := by
    intro g h1 h2 hnext
    have dg : Dig (b64 : Int) [g] := Dig.cons.2 ⟨⟨by omega, h2⟩, Dig.nil⟩
    have hng : num (strip [g]) = g.toNat := by rw [num_strip' dg, num_one (by omega)]
    refine Evt.succ ?_
    simp only [nat_long.l1]
    refine Evt.bind (nat_Of_ev g) ?_
    refine Evt.bind (nat_school_ev d (strip [g]) (by omega) (by have := strip_length [g]; simp at this; omega) dd (by rw [strip_limbs dg]; exact limbs_dig' _)) ?_
    refine Evt.bind (Evt.of (fun _ => clone_ev part (by omega))) ?_
    refine Evt.bind (nat_trim_ev part (by simp [maxLen]; omega)) ?_
    rw [hng, strip_limbs dp]
    refine Evt.bind (nat_compare_ev (limbs (num part)) (limbs (num d * g.toNat)) (limbs_dig' _) (limbs_dig' _) (limbs_can' _) (limbs_can' _) (by have := limbs_len' (num_lt dp); omega)) ?_
    rw [num_limbs, num_limbs]
    by_cases hle : g ≤ gs
    · obtain rfl : g = gs := by omega
      have hf := (hfit g hg0).2 (Int.le_refl _)
      refine Evt.ite_pos (by unfold cmpN; rw [if_neg (by omega)]; split <;> omega) ?_
      refine Evt.bind hs ?_
      refine Evt.ite_pos hsl (Evt.ite_pos (by omega) (Evt.ite_pos (by omega) ?_))
      rw [Int.toNat_natCast, w64 (by omega) (by omega)]
      exact fin
    · have hf : ¬ num d * g.toNat ≤ num part := fun h => hle ((hfit g (by omega)).1 h)
      refine Evt.ite_neg (by unfold cmpN; rw [if_pos (by omega)]; omega) ?_
      exact hnext (by omega)
  induction n with
  | zero =>
    intro g h1 h2 h3
    exact step g h1 h2 (fun h => absurd h (by omega))
  | succ n ih =>
    intro g h1 h2 h3
    refine step g h1 h2 (fun h => ?_)
    rw [wu64_of (by omega) (by omega)]
    exact ih (g - 1) (by omega) (by omega) (by omega)
theorem guess_fits {X D P0 D0 W r2 r1 r0 d1 d0 g h : Int} (hX : X = P0 + W * (r0 + 18446744073709551616 * (r1 + 18446744073709551616 * r2))) (hD : D = D0 + W * (d0 + 18446744073709551616 * d1))
    (hP : P0 < W) (hD0 : 0 ≤ D0) (hW : 0 < W) (hh : 0 ≤ h) (hfit : h * D ≤ X) : h * (d1 * 18446744073709551616 + d0) ≤ (r2 * 18446744073709551616 + r1) * 18446744073709551616 + r0 := by
  refine Int.not_lt.1 (fun hlt => ?_)
  have e1 : (r2 * 18446744073709551616 + r1) * 18446744073709551616 + r0 + 1 ≤ h * (d1 * 18446744073709551616 + d0) := hlt
  have e2 := Int.mul_le_mul_of_nonneg_left e1 (Int.le_of_lt hW)
  have e3 : 0 ≤ h * D0 := Int.mul_nonneg hh hD0
  have e4 : h * D = h * D0 + W * (h * (d1 * 18446744073709551616 + d0)) := by rw [hD]; grind
  have e5 : W * ((r2 * 18446744073709551616 + r1) * 18446744073709551616 + r0 + 1) = W * (r0 + 18446744073709551616 * (r1 + 18446744073709551616 * r2)) + W := by grind
  omega
theorem long_l0 (s : Nat) (hs : s < 64) (d : List Int) (dd : Dig (b64 : Int) d) (cd : Can d) (hk : 2 ≤ d.length) (hdl : d.length ≤ 400) (A : Int) (ql : Nat) (hql : ql ≤ 400) (i : Nat) :
    ∀ r q : List Int, i ≤ ql → r.length = ql + d.length → q.length = ql → Dig (b64 : Int) r → Dig (b64 : Int) q → val (b64 : Int) (r.drop i) < val (b64 : Int) d → val (b64 : Int) (q.drop i) * (b64 : Int) ^ i * val (b64 : Int) d + val (b64 : Int) r = A →
      Evt (fun k => nat_long.l0 k (s : Int) r d (d.length : Int) q ((i : Int) - 1)) (limbs (A / val (b64 : Int) d).toNat, limbs ((A % val (b64 : Int) d).toNat / 2 ^ s)) := by
  have hB : (b64 : Int) = 18446744073709551616 := rfl
  have hDn := val_nonneg b64_pos dd
  induction i with
  | zero =>
    intro r q hi hr hq dr dq hlt hv
    rw [List.drop_zero] at hlt
    rw [List.drop_zero, Int.pow_zero, Int.mul_one] at hv
    have hrn := val_nonneg b64_pos dr
    have e1 : A / val (b64 : Int) d = val (b64 : Int) q := by
      rw [← hv, Int.mul_comm, Int.mul_add_ediv_left _ _ (by omega), Int.ediv_eq_zero_of_lt hrn hlt, Int.add_zero]
    have e2 : A % val (b64 : Int) d = val (b64 : Int) r := by
      rw [← hv, Int.mul_comm, Int.add_comm, Int.add_mul_emod_self_left, Int.emod_eq_of_lt hrn hlt]
    rw [e1, e2, show (val (b64 : Int) q).toNat = num q from rfl, show (val (b64 : Int) r).toNat = num r from rfl]
    refine Evt.succ ?_
    simp only [nat_long.l0]
    refine Evt.ite_neg (by omega) ?_
    refine Evt.bind (nat_trim_ev r (by simp [maxLen]; omega)) ?_
    have hsl := strip_length r
    refine Evt.ite_pos (by omega) (Evt.ite_pos (by omega) ?_)
    rw [Int.toNat_natCast]
    have dsr : Dig (b64 : Int) (strip r) := by rw [strip_limbs dr]; exact limbs_dig' _
    refine (long_l2 (strip r) q dsr (by omega) (by omega) s hs (strip r).length 0 [] (by omega) (by omega) rfl (by simp)).congr (fun k => by rfl) ?_
    have hdw := downL_facts s hs (strip r) dsr
    rw [strip_limbs dq, strip_limbs hdw.1, num_down dsr s hs, num_strip' dr]
  | succ a ih =>
    intro r q hi hr hq dr dq hlt hv
    rw [show ((a + 1 : Nat) : Int) - 1 = (a : Int) from by omega]
    have hDlt := val_lt b64_pos dd
    have h1 := vsplit (b64 : Int) (r.drop (a + 1)) d.length (by rw [List.length_drop]; omega)
    rw [List.drop_drop] at h1
    have h2 := val_nonneg b64_pos ((dr.drop (a + 1)).take d.length)
    have h3 := val_nonneg b64_pos (dr.drop (a + 1 + d.length))
    have hW : (0 : Int) < (b64 : Int) ^ d.length := Int.pow_pos b64_pos
    have h4 : val (b64 : Int) (r.drop (a + 1 + d.length)) = 0 := by
      refine Int.le_antisymm (Int.not_lt.1 (fun h => ?_)) h3
      have := Int.mul_le_mul_of_nonneg_left (show (1 : Int) ≤ val (b64 : Int) (r.drop (a + 1 + d.length)) from h) (Int.le_of_lt hW)
      omega
    have hX := vdrop (b64 : Int) r a
    have hra := dr.getD b64_pos a
    have hpartl : (((r.take (a + d.length + 1)).drop a)).length = d.length + 1 := by
      rw [List.length_drop, List.length_take]; omega
    have hpv : val (b64 : Int) ((r.take (a + d.length + 1)).drop a) = val (b64 : Int) (r.drop a) := by
      have h5 := vsplit (b64 : Int) (r.drop a) (d.length + 1) (by rw [List.length_drop]; omega)
      rw [List.drop_drop, show a + (d.length + 1) = a + 1 + d.length from by omega, h4, Int.mul_zero, Int.add_zero] at h5
      rw [List.drop_take, show a + d.length + 1 - a = d.length + 1 from by omega]
      exact h5.symm
    have dpart : Dig (b64 : Int) ((r.take (a + d.length + 1)).drop a) := (dr.take _).drop _
    have hXlt : val (b64 : Int) (r.drop a) < 18446744073709551616 * val (b64 : Int) d := by
      rw [hX, hB] at *
      omega
    have hX0 : 0 ≤ val (b64 : Int) (r.drop a) := val_nonneg b64_pos (dr.drop a)
    have hD0 : 0 < val (b64 : Int) d := by
      have := val_nonneg b64_pos (dr.drop (a + 1))
      omega
    obtain ⟨gs, hgs⟩ : ∃ gs, gs = val (b64 : Int) (r.drop a) / val (b64 : Int) d := ⟨_, rfl⟩
    have hgs0 : 0 ≤ gs := by rw [hgs]; exact Int.ediv_nonneg hX0 hDn
    have hgs1 : gs < 18446744073709551616 := by
      rw [hgs]
      exact Int.ediv_lt_of_lt_mul hD0 hXlt
    have hle : ∀ g : Int, g * val (b64 : Int) d ≤ val (b64 : Int) (r.drop a) ↔ g ≤ gs := fun g => by rw [hgs, Int.le_ediv_iff_mul_le hD0]
    have hnd := num_val dd
    have hnp := num_val dpart
    have hfit : ∀ g : Int, 0 ≤ g → (num d * g.toNat ≤ num ((r.take (a + d.length + 1)).drop a) ↔ g ≤ gs) := by
      intro g hg
      rw [← hle g, ← hpv, ← hnp, ← hnd]
      obtain ⟨m, rfl⟩ := Int.eq_ofNat_of_zero_le hg
      rw [Int.toNat_natCast, Nat.mul_comm]
      have : ((m : Int) * (num d : Int)) = ((m * num d : Nat) : Int) := by simp
      rw [this]
      omega
    have hsmall : num d * gs.toNat ≤ num ((r.take (a + d.length + 1)).drop a) := (hfit gs hgs0).2 (Int.le_refl _)
    obtain ⟨sN, s1, s2, s3, s4⟩ := nat_less_ev ((r.take (a + d.length + 1)).drop a) (limbs (num d * gs.toNat)) (by omega) (limbs_len' (Nat.lt_of_le_of_lt hsmall (num_lt dpart))) dpart (limbs_dig' _) (by rw [num_limbs]; exact hsmall)
    rw [num_limbs] at s3
    have hsv : val (b64 : Int) sN = val (b64 : Int) (r.drop a) - gs * val (b64 : Int) d := by
      rw [← num_val s2, s3, ← hpv, ← hnp, ← hnd]
      obtain ⟨m, hm⟩ := Int.eq_ofNat_of_zero_le hgs0
      rw [hm] at hsmall ⊢
      rw [Int.toNat_natCast] at hsmall ⊢
      have : ((m : Int) * (num d : Int)) = ((num d * m : Nat) : Int) := by rw [Nat.mul_comm]; simp
      rw [this]
      omega
    have hslt : val (b64 : Int) sN < val (b64 : Int) d := by
      have h6 := Int.emod_lt_of_pos (val (b64 : Int) (r.drop a)) hD0
      have h7 := Int.emod_add_mul_ediv (val (b64 : Int) (r.drop a)) (val (b64 : Int) d)
      rw [← hgs, Int.mul_comm] at h7
      omega
    have hnew : (r.take a ++ (sN ++ r.drop (a + sN.length))).drop a = sN ++ r.drop (a + sN.length) := by
      rw [List.drop_append, List.drop_of_length_le (by rw [List.length_take]; omega), List.length_take, Nat.min_eq_left (by omega), Nat.sub_self, List.drop_zero, List.nil_append]
    have hnv : val (b64 : Int) (sN ++ r.drop (a + sN.length)) = val (b64 : Int) sN := by
      rw [val_append, s4, hpartl, show a + (d.length + 1) = a + 1 + d.length from by omega, h4, Int.mul_zero, Int.add_zero]
    have hfin := ih (r.take a ++ (sN ++ r.drop (a + sN.length))) (q.set a gs) (by omega) (by simp only [List.length_append, List.length_take, List.length_drop, s4, hpartl]; omega) (by rw [List.length_set]; exact hq)
      (Dig.append.2 ⟨dr.take _, Dig.append.2 ⟨s2, dr.drop _⟩⟩) (dq.set _ ⟨hgs0, hgs1⟩) (by rw [hnew, hnv]; exact hslt) (by
        rw [val_append, hnv, hsv, List.length_take, Nat.min_eq_left (by omega)]
        have e1 : (q.set a gs).drop a = gs :: q.drop (a + 1) := by
          rw [List.drop_eq_getElem_cons (by rw [List.length_set]; omega), List.drop_set, if_pos (Nat.lt_succ_self a)]
          simp
        rw [e1]
        simp only [val]
        have h8 := vsplit (b64 : Int) r a (by omega)
        rw [Int.pow_succ] at hv
        rw [← hv, h8]
        generalize val (b64 : Int) (q.drop (a + 1)) = Q
        generalize (b64 : Int) ^ a = W
        generalize val (b64 : Int) d = D
        generalize (b64 : Int) = B
        grind)
    have k1 := can_last cd (by omega)
    have kd1 := dd.getD b64_pos (d.length - 1)
    have kd0 := dd.getD b64_pos (d.length - 2)
    have kr2 := dr.getD b64_pos (a + d.length)
    have kr1 := dr.getD b64_pos (a + d.length - 1)
    have kr0 := dr.getD b64_pos (a + d.length - 2)
    rw [hB] at kd1 kd0 kr2 kr1 kr0
    obtain ⟨g, g1, g2, g3⟩ := nat_guess_ev (r2 := r.getD (a + d.length) 0) (r1 := r.getD (a + d.length - 1) 0) (r0 := r.getD (a + d.length - 2) 0) (d1 := d.getD (d.length - 1) 0) (d0 := d.getD (d.length - 2) 0) kr2.1 kr1 kr0 ⟨by omega, kd1.2⟩ kd0
    have hgg : gs ≤ g := by
      refine g3 gs hgs1 ?_
      have eX : val (b64 : Int) (r.drop a) = val (b64 : Int) ((r.drop a).take (d.length - 2)) + (b64 : Int) ^ (d.length - 2) * (r.getD (a + d.length - 2) 0 + 18446744073709551616 * (r.getD (a + d.length - 1) 0 + 18446744073709551616 * r.getD (a + d.length) 0)) := by
        rw [vsplit (b64 : Int) (r.drop a) (d.length - 2) (by rw [List.length_drop]; omega), List.drop_drop, show a + (d.length - 2) = a + d.length - 2 from by omega, vdrop (b64 : Int) r (a + d.length - 2), show a + d.length - 2 + 1 = a + d.length - 1 from by omega, vdrop (b64 : Int) r (a + d.length - 1), show a + d.length - 1 + 1 = a + d.length from by omega, vdrop (b64 : Int) r (a + d.length), show a + d.length + 1 = a + 1 + d.length from by omega, h4, Int.mul_zero, Int.add_zero, hB]
      have eD : val (b64 : Int) d = val (b64 : Int) (d.take (d.length - 2)) + (b64 : Int) ^ (d.length - 2) * (d.getD (d.length - 2) 0 + 18446744073709551616 * d.getD (d.length - 1) 0) := by
        have := vsplit (b64 : Int) d (d.length - 2) (by omega)
        rw [vdrop (b64 : Int) d (d.length - 2), show d.length - 2 + 1 = d.length - 1 from by omega, vdrop (b64 : Int) d (d.length - 1), show d.length - 1 + 1 = d.length from by omega, List.drop_length] at this
        simp only [val, Int.mul_zero, Int.add_zero] at this
        rw [hB] at this ⊢
        exact this
      have hPlt := val_lt b64_pos ((dr.drop a).take (d.length - 2))
      rw [List.length_take, List.length_drop, Nat.min_eq_left (by omega)] at hPlt
      exact guess_fits (g := 0) eX eD hPlt (val_nonneg b64_pos (dd.take _)) (Int.pow_pos b64_pos) hgs0 ((hle gs).2 (Int.le_refl _))
    refine Evt.succ ?_
    simp only [nat_long.l0]
    rw [w64 (x := (a : Int) + (d.length : Int)) (by omega) (by omega), w64 (x := (a : Int) + (d.length : Int) - 1) (by omega) (by omega), w64 (x := (a : Int) + (d.length : Int) - 2) (by omega) (by omega), w64 (x := (d.length : Int) - 1) (by omega) (by omega), w64 (x := (d.length : Int) - 2) (by omega) (by omega), w64 (x := (a : Int) + (d.length : Int) + 1) (by omega) (by omega)]
    rw [show (a : Int) + (d.length : Int) - 1 = ((a + d.length - 1 : Nat) : Int) from by omega, show (a : Int) + (d.length : Int) - 2 = ((a + d.length - 2 : Nat) : Int) from by omega, show (a : Int) + (d.length : Int) = ((a + d.length : Nat) : Int) from by omega, show (d.length : Int) - 1 = ((d.length - 1 : Nat) : Int) from by omega, show (d.length : Int) - 2 = ((d.length - 2 : Nat) : Int) from by omega, show ((a + d.length : Nat) : Int) + 1 = ((a + d.length + 1 : Nat) : Int) from by omega]
    simp only [rd_nat, Int.toNat_natCast]
    refine Evt.ite_pos (by omega) (Evt.ite_pos (by omega) (Evt.ite_pos (by omega) (Evt.ite_pos (by omega) (Evt.ite_pos (by omega) (Evt.ite_pos (by omega) (Evt.ite_pos (by omega) (Evt.ite_pos (by omega) (Evt.ite_pos (by omega) (Evt.ite_pos (by omega) (Evt.ite_pos (by omega) ?_))))))))))
    refine Evt.bind g1 ?_
    refine Evt.ite_pos (by omega) (Evt.ite_pos (by omega) (Evt.ite_pos (by omega) ?_))
    refine long_l1 r d q ((r.take (a + d.length + 1)).drop a) sN (s : Int) (d.length : Int) gs a (by omega) (by omega) dpart dd hgs0 hfit s1 s4 (by omega) (by omega) ?_ (g - gs).toNat g hgg g2.2 (by omega)
    rw [← s4]
    exact hfin
theorem nat_long_ev (a b : List Int) (da : Dig (b64 : Int) a) (db : Dig (b64 : Int) b) (cb : Can b) (hb : 2 ≤ b.length) (hab : b.length ≤ a.length) (ha : a.length ≤ 390) :
    Evt (fun k => nat_long.f k a b) (limbs (num a / num b), limbs (num a % num b)) := by
  have hB : (b64 : Int) = 18446744073709551616 := rfl
  have ht := can_last cb (by omega)
  have htr := db.getD b64_pos (b.length - 1)
  rw [hB] at htr
  obtain ⟨t, htt⟩ : ∃ t, t = b.getD (b.length - 1) 0 := ⟨_, rfl⟩
  rw [← htt] at ht htr
  have hbl1 := bl_lt t.toNat
  have hbl2 : bl t.toNat ≤ 64 := bl_le (by omega)
  have hbl3 := bl_pos (n := t.toNat) (by omega)
  obtain ⟨s, hs⟩ : ∃ s, s = 64 - bl t.toNat := ⟨_, rfl⟩
  have hs64 : s < 64 := by omega
  obtain ⟨r, r1, r2, r3, r4⟩ := nat_up_ev a da (by omega) s hs64
  obtain ⟨e, e1, e2, e3, e4⟩ := nat_up_ev b db (by omega) s hs64
  have v1 := vsplit (b64 : Int) b (b.length - 1) (by omega)
  rw [vdrop (b64 : Int) b (b.length - 1), show b.length - 1 + 1 = b.length from by omega, List.drop_length, ← htt] at v1
  simp only [val, Int.mul_zero, Int.add_zero] at v1
  have v2 := val_lt b64_pos (db.take (b.length - 1))
  rw [List.length_take, Nat.min_eq_left (by omega)] at v2
  have v3 := val_nonneg b64_pos (db.take (b.length - 1))
  have hnb := num_val db
  have hWp := pow_pos64' (b.length - 1)
  have hpc := pow_cast b64 (b.length - 1)
  have nlo : b64 ^ (b.length - 1) ≤ num b := by
    have h5 : (b64 : Int) ^ (b.length - 1) * 1 ≤ (b64 : Int) ^ (b.length - 1) * t := Int.mul_le_mul_of_nonneg_left (by omega) (by rw [hpc]; omega)
    rw [Int.mul_one] at h5
    omega
  have nhi : num b < b64 ^ (b.length - 1) * 2 ^ bl t.toNat := by
    have h5 : t + 1 ≤ ((2 ^ bl t.toNat : Nat) : Int) := by omega
    have h6 : (b64 : Int) ^ (b.length - 1) * (t + 1) ≤ (b64 : Int) ^ (b.length - 1) * ((2 ^ bl t.toNat : Nat) : Int) := Int.mul_le_mul_of_nonneg_left h5 (by rw [hpc]; omega)
    rw [Int.mul_add, Int.mul_one, hpc] at h6
    rw [hpc] at v1 v2
    have h7 : ((b64 ^ (b.length - 1) * 2 ^ bl t.toNat : Nat) : Int) = ((b64 ^ (b.length - 1) : Nat) : Int) * ((2 ^ bl t.toNat : Nat) : Int) := by simp
    omega
  have hP : 0 < 2 ^ s := Nat.pow_pos (by omega)
  have p64 : 2 ^ bl t.toNat * 2 ^ s = b64 := by
    rw [← Nat.pow_add, show bl t.toNat + s = 64 from by omega]
    rfl
  have dhi : num b * 2 ^ s < b64 ^ b.length := by
    have h6 := Nat.mul_lt_mul_of_pos_right nhi hP
    rw [Nat.mul_assoc, p64, ← Nat.pow_succ, show (b.length - 1).succ = b.length from by omega] at h6
    exact h6
  have dlo : b64 ^ (b.length - 1) ≤ num b * 2 ^ s := Nat.le_trans nlo (Nat.le_mul_of_pos_right _ hP)
  have dlen : (limbs (num b * 2 ^ s)).length = b.length := by
    have h6 := limbs_len' dhi
    have h7 : ¬ (limbs (num b * 2 ^ s)).length ≤ b.length - 1 := fun h => by
      have := (toD_len_iff b64_two (num b * 2 ^ s) (b.length - 1)).1 h
      omega
    omega
  have hvd : val (b64 : Int) (limbs (num b * 2 ^ s)) = ((num b * 2 ^ s : Nat) : Int) := val_toD b64_two _
  unfold nat_long.f
  rw [w64 (x := (b.length : Int) - 1) (by omega) (by omega)]
  refine Evt.ite_pos (by omega) (Evt.ite_pos (by omega) ?_)
  rw [show (b.length : Int) - 1 = ((b.length - 1 : Nat) : Int) from by omega, rd_nat, ← htt]
  have lz : Evt (fun k => bits_LeadingZeros64.f k t) (s : Int) := by
    unfold bits_LeadingZeros64.f
    refine (Evt.bind (bits_Len64_ev (x := t) (by omega) (by omega)) (h := fun t333 _ => some (wrap64 (64 - t333))) (Evt.pure _)).congr (fun k => rfl) ?_
    rw [w64 (by omega) (by omega)]
    omega
  refine Evt.bind lz ?_
  rw [wu64_of (by omega) (by omega)]
  refine Evt.bind r1 ?_
  refine Evt.bind e1 ?_
  refine Evt.bind (nat_trim_ev e (by simp [maxLen]; omega)) ?_
  rw [strip_limbs e2, e4, dlen, r3]
  rw [w64 (x := ((a.length + 1 : Nat) : Int) - (b.length : Int)) (by omega) (by omega), show ((a.length + 1 : Nat) : Int) - (b.length : Int) = ((a.length + 1 - b.length : Nat) : Int) from by omega, Int.toNat_natCast]
  refine Evt.ite_pos (by omega) (Evt.ite_pos (by omega) ?_)
  refine Evt.bind (Evt.pure _) ?_
  rw [List.length_replicate, w64 (by omega) (by omega)]
  have hmain := long_l0 s hs64 (limbs (num b * 2 ^ s)) (limbs_dig' _) (limbs_can' _) (by omega) (by omega) (val (b64 : Int) r) (a.length + 1 - b.length) (by omega) (a.length + 1 - b.length) r (List.replicate (a.length + 1 - b.length) 0) (Nat.le_refl _) (by omega) (by simp) r2 (Dig.replicate b64_pos _) (by
    have h6 := vsplit (b64 : Int) r (a.length + 1 - b.length) (by omega)
    have h7 := val_nonneg b64_pos (r2.take (a.length + 1 - b.length))
    have h8 := num_val r2
    rw [r4] at h8
    have h9 := num_lt da
    have h10 : num a * 2 ^ s < b64 ^ a.length * 2 ^ s := Nat.mul_lt_mul_of_pos_right h9 hP
    have h11 : b64 ^ a.length * 2 ^ s ≤ b64 ^ (a.length + 1 - b.length) * (num b * 2 ^ s) := by
      have : b64 ^ a.length = b64 ^ (a.length + 1 - b.length) * b64 ^ (b.length - 1) := by
        rw [← Nat.pow_add, show a.length + 1 - b.length + (b.length - 1) = a.length from by omega]
      rw [this, Nat.mul_assoc]
      exact Nat.mul_le_mul_left _ (Nat.mul_le_mul_right _ nlo)
    rw [hvd]
    refine Int.not_le.1 (fun hge => ?_)
    have h12 := Int.mul_le_mul_of_nonneg_left hge (show (0 : Int) ≤ (b64 : Int) ^ (a.length + 1 - b.length) by rw [pow_cast]; omega)
    have h13 : (b64 : Int) ^ (a.length + 1 - b.length) * ((num b * 2 ^ s : Nat) : Int) = ((b64 ^ (a.length + 1 - b.length) * (num b * 2 ^ s) : Nat) : Int) := by rw [pow_cast, ← Int.natCast_mul]
    rw [h13] at h12
    omega) (by
    rw [List.drop_of_length_le (by simp)]
    simp [val])
  rw [dlen] at hmain
  refine hmain.congr (fun k => rfl) ?_
  have h8 := num_val r2
  rw [hvd, ← h8, r4, show ((num a * 2 ^ s : Nat) : Int) / ((num b * 2 ^ s : Nat) : Int) = ((num a * 2 ^ s / (num b * 2 ^ s) : Nat) : Int) from rfl, show ((num a * 2 ^ s : Nat) : Int) % ((num b * 2 ^ s : Nat) : Int) = ((num a * 2 ^ s % (num b * 2 ^ s) : Nat) : Int) from rfl, Int.toNat_natCast, Int.toNat_natCast, Nat.mul_div_mul_right _ _ hP, Nat.mul_mod_mul_right, Nat.mul_div_cancel _ hP]
end Go.Proofs.Ytlkinjhmgljapaa.Z
end
section
namespace Go.Proofs.Ytlkinjhmgljapaa.Z
open Go.RowKit Go.Proofs.Ytlkinjhmgljapaa.F Go.Proofs.YtlkinjhmgljapaaW.PrintWords
set_option linter.unusedSimpArgs false
set_option linter.unusedVariables false
theorem nat_Div_ev (a b : List Int) (ha : a.length ≤ maxLen) (hb : b.length ≤ maxLen) (da : Dig (b64 : Int) a) (db : Dig (b64 : Int) b) : Evt (fun k => nat_Div.f k a b) (divV a b) := by
  unfold nat_Div.f divV
  rw [nat_right_eq _ (by intro l hl; simp at hl; rcases hl with rfl | rfl <;> assumption)]
  simp only [Option.bind_some, List.all_cons, List.all_nil, Bool.and_true, Bool.and_eq_true]
  by_cases h : rightB a = true ∧ rightB b = true
  · rw [if_pos h]
    refine Evt.ite_pos h ?_
    obtain ⟨h1, c1⟩ := (rightB_iff a).1 h.1
    obtain ⟨h2, c2⟩ := (rightB_iff b).1 h.2
    have hz := num_zero_iff db c2
    by_cases h0 : b.length = 0
    · rw [if_pos (hz.2 h0)]
      exact Evt.ite_pos (by omega) (Evt.pure _)
    · have hnz : num b ≠ 0 := fun e => h0 (hz.1 e)
      rw [if_neg hnz]
      refine Evt.ite_neg (by omega) ?_
      refine Evt.bind (nat_compare_ev a b da db c1 c2 (by omega)) ?_
      by_cases hlt : num a < num b
      · refine Evt.ite_pos (by unfold cmpN; rw [if_pos hlt]; omega) ?_
        refine Evt.bind (Evt.of (fun _ => clone_ev a (by omega))) ?_
        rw [Nat.div_eq_of_lt hlt, Nat.mod_eq_of_lt hlt, limbs_num da c1]
        rw [show limbs 0 = [] from toD_zero b64]
        exact Evt.pure _
      · refine Evt.ite_neg (by unfold cmpN; rw [if_neg hlt]; split <;> omega) ?_
        by_cases h3 : b.length = 1
        · obtain ⟨x, rfl⟩ : ∃ x, b = [x] := List.length_eq_one_iff.1 h3
          have hx := (Dig.cons.1 db).1
          have hx0 : num [x] = x.toNat := num_one hx.1
          refine Evt.ite_pos (by simp) (Evt.ite_pos (by simp) ?_)
          have hr : rd [x] 0 = x := rfl
          rw [hr]
          rw [hx0] at hnz ⊢
          have hB : (b64 : Int) = 18446744073709551616 := rfl
          rw [hB] at hx
          refine Evt.bind (nat_short_ev a x da (by omega) (by omega) hx.2) ?_
          refine (Evt.bind (nat_Of_ev ((num a % x.toNat : Nat) : Int)) (h := fun t _ => some (limbs (num a / x.toNat), t, (0 : Int))) (Evt.pure _)).congr (fun k => rfl) ?_
          have hm : num a % x.toNat < x.toNat := Nat.mod_lt _ (by omega)
          have dr : Dig (b64 : Int) [((num a % x.toNat : Nat) : Int)] := Dig.cons.2 ⟨by rw [hB]; omega, Dig.nil⟩
          rw [strip_limbs dr, num_one (by omega), Int.toNat_natCast]
        · refine Evt.ite_neg (by omega) ?_
          have hab := num_len_le db c2 da (by omega)
          exact Evt.bind (nat_long_ev a b da db c2 (by omega) hab (by omega)) (h := fun t _ => some (t.1, t.2, (0 : Int))) (Evt.pure _)
  · rw [if_neg h]
    exact Evt.ite_neg h (Evt.pure _)
theorem and_one_m {x : Int} (h0 : 0 ≤ x) (h1 : x < 18446744073709551616) : Go.bits .and .u64 x 1 = x % 2 := bits_mask .u64 64 (by decide) wraps_u64 1 (by decide) x h0 (by omega)
def mayM (n : List Int) : Bool := rightB n && mont_New.ok n
theorem head_dig {n : List Int} (dn : Dig (b64 : Int) n) : 0 ≤ n.getD 0 0 ∧ n.getD 0 0 < 18446744073709551616 := Dig.getD dn (by decide) 0
theorem ref_May_m {n : List Int} (hn : n.length ≤ maxLen) (dn : Dig (b64 : Int) n) : windbreakref02_May.f n = some (mayM n) := by
  obtain ⟨d0, d1⟩ := head_dig dn
  unfold windbreakref02_May.f mayM mont_New.ok
  rw [windbreakref01_Right_eq hn, and_one_m d0 d1, show rd n 0 = n.getD 0 0 from rfl]
  simp only [Option.bind_some]
  rw [Int.tmod_eq_emod_of_nonneg d0]
  generalize n.getD 0 0 = a at d0 d1 ⊢
  generalize n.length = m
  cases rightB n with
  | false => simp
  | true =>
    by_cases h1 : 0 < m
    · by_cases h2 : m ≤ 8
      · by_cases h3 : a % 2 = 1
        · by_cases h4 : m = 1
          · subst h4
            by_cases h5 : a = 1
            · subst h5; simp
            · have : 1 < a := by omega
              simp [h3, h5, this]
          · have h5 : (1 : Int) < (m : Int) := by omega
            have h6 : (m : Int) ≤ 8 := by omega
            have h7 : (0 : Int) < (m : Int) := by omega
            simp [h1, h2, h3, h4, h5, h6, h7]
        · have h6 : (m : Int) ≤ 8 := by omega
          have h7 : (0 : Int) < (m : Int) := by omega
          have h8 : a % 2 = 0 := by omega
          simp [h1, h2, h3, h6, h7, h8]
      · have h6 : ¬ (m : Int) ≤ 8 := by omega
        have h7 : (0 : Int) < (m : Int) := by omega
        simp [h1, h2, h6, h7]
    · have h7 : ¬ (0 : Int) < (m : Int) := by omega
      simp [h1, h7]
theorem pow_facts (m : Nat) (hm : m ≤ 63) : Dig (b64 : Int) (List.replicate m 0 ++ [1]) ∧ rightB (List.replicate m 0 ++ [1]) = true ∧ num (List.replicate m 0 ++ [1]) = b64 ^ m := by
  have hd : Dig (b64 : Int) (List.replicate m 0 ++ [1]) := Dig.append.2 ⟨Dig.replicate (by decide) _, Dig.cons.2 ⟨by decide, Dig.nil⟩⟩
  refine ⟨hd, (rightB_iff _).2 ⟨by simp; omega, fun _ => by simp⟩, ?_⟩
  have h := num_val hd
  rw [val_append, val_replicate] at h
  simp only [val, List.length_replicate, Int.mul_zero, Int.add_zero, Int.zero_add, Int.mul_one] at h
  have : ((b64 : Int)) ^ m = ((b64 ^ m : Nat) : Int) := by simp
  rw [this] at h
  omega
theorem mont_rest_ev {n : List Int} (hr : rightB n = true) (hl8 : n.length ≤ 8) (hn0 : num n ≠ 0) (dn : Dig (b64 : Int) n) (p : Nat) (hp : p ≤ 2) : Evt (fun k => mont_rest.f k n p) (limbs (b64 ^ (p * n.length) % num n)) := by
  unfold mont_rest.f
  have hm : p * n.length ≤ 2 * 8 := Nat.mul_le_mul hp hl8
  obtain ⟨h1, h2, h3⟩ := pow_facts (p * n.length) (by omega)
  have hd := nat_Div_ev (List.replicate (p * n.length) 0 ++ [1]) n (by simp [maxLen]; omega) (by simp only [maxLen]; omega) h1 dn
  unfold divV at hd
  rw [if_pos ⟨h2, hr⟩, if_neg hn0, h3] at hd
  exact Evt.bind hd (h := fun q _ => some q.2.1) (Evt.pure _)
theorem mayM_parts {n : List Int} (dn : Dig (b64 : Int) n) (h : mayM n = true) : rightB n = true ∧ 0 < n.length ∧ n.length ≤ 8 ∧ num n ≠ 0 ∧ mont_New.ok n = true := by
  unfold mayM at h
  obtain ⟨h1, h2⟩ := Bool.and_eq_true_iff.1 h
  have h3 := h2
  unfold mont_New.ok at h3
  simp only [Bool.and_eq_true, decide_eq_true_eq] at h3
  obtain ⟨⟨⟨o1, o2⟩, o3⟩, o4⟩ := h3
  exact ⟨h1, o1, o2, fun e => by have := (num_zero_iff dn ((rightB_iff n).1 h1).2).1 e; omega, h2⟩
theorem mont_New_ev {n : List Int} (hn : n.length ≤ maxLen) (dn : Dig (b64 : Int) n) : Evt (fun k => mont_New.f k n) (if mayM n = true then some (limbs (b64 ^ (1 * n.length) % num n), limbs (b64 ^ (2 * n.length) % num n)) else none) := by
  unfold mont_New.f
  rw [nat_Right_eq hn]
  simp only [Option.bind_some]
  by_cases h : mayM n = true
  · obtain ⟨h1, h2, h3, h4, h5⟩ := mayM_parts dn h
    rw [if_pos h]
    refine Evt.ite_pos ⟨h1, h5⟩ ?_
    refine Evt.bind (mont_rest_ev h1 h3 h4 dn 1 (by omega)) ?_
    exact Evt.bind (mont_rest_ev h1 h3 h4 dn 2 (by omega)) (Evt.pure _)
  · rw [if_neg h]
    refine Evt.ite_neg (fun ⟨a, b⟩ => h ?_) (Evt.pure _)
    unfold mayM
    rw [a, b]
    rfl
theorem fresh_ev {n : List Int} (hn : n.length ≤ maxLen) (dn : Dig (b64 : Int) n) : Evt (fun k => windbreaklaw02_fresh.f k n) (if mayM n = true then (some (limbs (b64 ^ (1 * n.length) % num n), limbs (b64 ^ (2 * n.length) % num n)), true) else (none, true)) := by
  unfold windbreaklaw02_fresh.f
  refine Evt.bind (mont_New_ev hn dn) ?_
  rw [ref_May_m hn dn]
  simp only [Option.bind_some]
  refine (Evt.pure _).congr (fun k => rfl) ?_
  by_cases h : mayM n = true
  · rw [if_pos h, if_pos h, if_pos h]; rfl
  · rw [if_neg h, if_neg h, if_neg h]; rfl
def belowB (n a : List Int) : Bool := rightB a && decide (num a < num n)
theorem cmpN_neg (x y : Nat) : decide (cmpN x y < 0) = decide (x < y) := by
  unfold cmpN
  by_cases h : x < y
  · rw [if_pos h]; simp [h]
  · rw [if_neg h]
    split <;> simp [h]
theorem below_one_ev {n a : List Int} (hnr : rightB n = true) (hn : n.length ≤ maxLen) (dn : Dig (b64 : Int) n) (ha : a.length ≤ maxLen) (da : Dig (b64 : Int) a) : Evt (fun k => mont_below.one k n a) (belowB n a) := by
  unfold mont_below.one belowB
  rw [nat_Right_eq ha]
  simp only [Option.bind_some]
  cases h : rightB a with
  | false => exact Evt.ite_neg (by simp) ((Evt.pure _).congr (fun k => rfl) (by simp))
  | true =>
    refine Evt.ite_pos rfl ?_
    have hc := nat_Cmp_ev a n ha hn da dn
    unfold cmpV at hc
    rw [if_pos ⟨h, hnr⟩] at hc
    refine Evt.bind hc ?_
    exact (Evt.pure _).congr (fun k => rfl) (by rw [cmpN_neg]; simp)
theorem below_two_ev {n x y : List Int} (hnr : rightB n = true) (hn : n.length ≤ maxLen) (dn : Dig (b64 : Int) n) (hx : x.length ≤ maxLen) (dx : Dig (b64 : Int) x) (hy : y.length ≤ maxLen) (dy : Dig (b64 : Int) y) : Evt (fun k => mont_below.f k n [x, y]) (belowB n x && belowB n y) := by
  simp only [mont_below.f]
  refine Evt.bind (below_one_ev hnr hn dn hx dx) ?_
  cases belowB n x with
  | false => exact Evt.ite_neg (by simp) ((Evt.pure _).congr (fun k => rfl) rfl)
  | true =>
    refine Evt.ite_pos rfl ?_
    refine Evt.bind (below_one_ev hnr hn dn hy dy) ?_
    cases belowB n y with
    | false => exact Evt.ite_neg (by simp) ((Evt.pure _).congr (fun k => rfl) rfl)
    | true => exact Evt.ite_pos rfl ((Evt.pure _).congr (fun k => rfl) rfl)
theorem mayM_odd {n : List Int} (dn : Dig (b64 : Int) n) (h : mayM n = true) : n.getD 0 0 % 2 = 1 ∧ num n % 2 = 1 ∧ ((num n % b64 : Nat) : Int) = n.getD 0 0 := by
  obtain ⟨h1, h2, h3, h4, h5⟩ := mayM_parts dn h
  unfold mont_New.ok at h5
  simp only [Bool.and_eq_true, decide_eq_true_eq] at h5
  obtain ⟨⟨⟨_, _⟩, o3⟩, _⟩ := h5
  obtain ⟨d0, d1⟩ := head_dig dn
  rw [and_one_m d0 d1] at o3
  have hv := val_head_m dn (by intro e; rw [e] at h2; simp at h2)
  rw [← num_val dn] at hv
  have hb : (b64 : Int) = 18446744073709551616 := rfl
  have hbn : b64 = 18446744073709551616 := rfl
  rw [hb] at hv
  rw [hbn]
  omega
theorem mont_Mul_ev {n x y : List Int} (h : mayM n = true) (dn : Dig (b64 : Int) n) (hx : x.length ≤ maxLen) (dx : Dig (b64 : Int) x) (hy : y.length ≤ maxLen) (dy : Dig (b64 : Int) y) :
    Evt (fun k => mont_Mul.f k n (mont_minus n) x y) (if (belowB n x && belowB n y) = true then (limbs (montOutN (num n) (64 * n.length) (num x * num y % num n)), 0) else ([], 1)) := by
  obtain ⟨h1, h2, h3, h4, h5⟩ := mayM_parts dn h
  obtain ⟨o1, o2, o3⟩ := mayM_odd dn h
  obtain ⟨m1, m2, m3⟩ := minus_ok o1
  unfold mont_Mul.f
  refine Evt.bind (below_two_ev h1 (by simp only [maxLen]; omega) dn hx dx hy dy) ?_
  by_cases hb : (belowB n x && belowB n y) = true
  · rw [if_pos hb]
    refine Evt.ite_pos hb ?_
    obtain ⟨b1, b2⟩ := Bool.and_eq_true_iff.1 hb
    unfold belowB at b1 b2
    obtain ⟨x1, x2⟩ := Bool.and_eq_true_iff.1 b1
    obtain ⟨y1, y2⟩ := Bool.and_eq_true_iff.1 b2
    have x3 := of_decide_eq_true x2
    have y3 := of_decide_eq_true y2
    refine Evt.bind (mont_product_ev h1 h3 (by omega) o2 dn dx dy x3 y3 (num_len_le dx ((rightB_iff x).1 x1).2 dn (Nat.le_of_lt x3)) (num_len_le dy ((rightB_iff y).1 y1).2 dn (Nat.le_of_lt y3)) ⟨m2, m3⟩ ?_) (Evt.pure _)
    have e1 : ((num n % b64 * (mont_minus n).toNat + 1 : Nat) : Int) = n.getD 0 0 * mont_minus n + 1 := by
      rw [Int.natCast_add, Int.natCast_mul, o3, Int.toNat_of_nonneg m2]
      rfl
    have hbn : b64 = 18446744073709551616 := rfl
    rw [← e1] at m1
    rw [hbn] at m1 ⊢
    omega
  · rw [if_neg hb]
    exact Evt.ite_neg hb (Evt.pure _)
theorem pow64_mono {m : Nat} (h : m ≤ 64) : b64 ^ m ≤ b64 ^ 64 := Nat.pow_le_pow_right (by decide) h
theorem mayM_big {n : List Int} (dn : Dig (b64 : Int) n) (h : mayM n = true) : 1 < num n ∧ num n < b64 ^ 8 ∧ num n % 2 = 1 := by
  obtain ⟨h1, h2, h3, h4, h5⟩ := mayM_parts dn h
  obtain ⟨o1, o2, o3⟩ := mayM_odd dn h
  refine ⟨?_, Nat.lt_of_lt_of_le (num_lt dn) (Nat.pow_le_pow_right (by decide) h3), o2⟩
  have hne : num n ≠ 1 := by
    intro e
    have hc := ((rightB_iff n).1 h1).2
    have e1 := limbs_num dn hc
    rw [e] at e1
    have e2 : limbs 1 = [1] := limbs_one (by decide) (by decide)
    rw [e2] at e1
    rw [← e1] at h5
    exact absurd h5 (by decide)
  omega
theorem pow8_two : b64 ^ 8 + b64 ^ 8 ≤ b64 ^ 64 := by
  have h1 : b64 ^ 9 ≤ b64 ^ 64 := pow64_mono (by omega)
  have h2 : b64 ^ 8 * 2 ≤ b64 ^ 8 * b64 := Nat.mul_le_mul_left _ b64_two
  have h3 : b64 ^ 9 = b64 ^ 8 * b64 := Nat.pow_succ b64 8
  generalize b64 ^ 9 = x at h1 h3
  generalize b64 ^ 64 = y at h1 ⊢
  generalize b64 ^ 8 = z at h2 h3 ⊢
  omega
theorem below_limbs {n : List Int} {A : Nat} (hA : A < num n) (hn : num n ≤ b64 ^ 64) : belowB n (limbs A) = true := by
  unfold belowB
  rw [right_limbs' (Nat.lt_of_lt_of_le hA hn), num_limbs, decide_eq_true hA]
  rfl
theorem below_parts {n a : List Int} (da : Dig (b64 : Int) a) (h : belowB n a = true) : rightB a = true ∧ num a < num n ∧ a = limbs (num a) := by
  unfold belowB at h
  obtain ⟨h1, h2⟩ := Bool.and_eq_true_iff.1 h
  exact ⟨h1, of_decide_eq_true h2, (limbs_num da ((rightB_iff a).1 h1).2).symm⟩
theorem ref2_Below_ev {n a : List Int} (hnr : rightB n = true) (hn : n.length ≤ maxLen) (dn : Dig (b64 : Int) n) (ha : a.length ≤ maxLen) (da : Dig (b64 : Int) a) : Evt (fun k => windbreakref02_Below.f k a n) (belowB n a) := by
  unfold windbreakref02_Below.f belowB
  rw [windbreakref01_Right_eq ha]
  simp only [Option.bind_some]
  cases h : rightB a with
  | false => exact Evt.ite_neg (by simp) ((Evt.pure _).congr (fun k => rfl) (by simp))
  | true =>
    refine Evt.ite_pos rfl ?_
    have hc := ref_Cmp_ev a n ha hn da dn
    unfold cmpW at hc
    rw [if_pos ⟨h, hnr⟩] at hc
    refine Evt.bind hc ?_
    exact (Evt.pure _).congr (fun k => rfl) (by rw [cmpN_neg]; simp)
theorem ref2_out_loop {n : List Int} (h : mayM n = true) (hn : n.length ≤ maxLen) (dn : Dig (b64 : Int) n) (d : Nat) : ∀ (i A : Nat), i + d = 64 * n.length → A < num n →
    Evt (fun k => windbreakref02_Out.l0 k (limbs A) n (i : Int)) (limbs (montOutN (num n) d A), 0) := by
  obtain ⟨h1, h2, h3, h4, h5⟩ := mayM_parts dn h
  obtain ⟨n1, n2, n3⟩ := mayM_big dn h
  have n5 := pow8_two
  induction d with
  | zero =>
    intro i A hi hA
    refine Evt.succ ?_
    simp only [windbreakref02_Out.l0]
    rw [w64 (by omega) (by omega)]
    refine Evt.ite_neg (by omega) ?_
    exact Evt.pure _
  | succ d ih =>
    intro i A hi hA
    refine Evt.succ ?_
    simp only [windbreakref02_Out.l0]
    rw [w64 (by omega) (by omega)]
    refine Evt.ite_pos (by omega) ?_
    refine Evt.bind (ref2_half_ev h1 hn dn (by omega) (by omega)) ?_
    rw [w64 (by omega) (by omega)]
    exact ih (i + 1) _ (by omega) (halfN_lt hA)
theorem ref2_Out_ev {n x : List Int} (h : mayM n = true) (hn : n.length ≤ maxLen) (dn : Dig (b64 : Int) n) (hx : x.length ≤ maxLen) (dx : Dig (b64 : Int) x) :
    Evt (fun k => windbreakref02_Out.f k x n) (if belowB n x = true then (limbs (montOutN (num n) (64 * n.length) (num x)), 0) else ([], 1)) := by
  obtain ⟨h1, h2, h3, h4, h5⟩ := mayM_parts dn h
  unfold windbreakref02_Out.f
  refine Evt.bind (ref2_Below_ev h1 hn dn hx dx) ?_
  by_cases hb : belowB n x = true
  · rw [if_pos hb]
    obtain ⟨b1, b2, b3⟩ := below_parts dx hb
    refine Evt.ite_pos hb ?_
    have l := ref2_out_loop h hn dn (64 * n.length) 0 (num x) (by omega) b2
    rw [← b3] at l
    exact l
  · rw [if_neg hb]
    exact Evt.ite_neg hb (Evt.pure _)
end Go.Proofs.Ytlkinjhmgljapaa.Z
end
section
namespace Go.Proofs.Ytlkinjhmgljapaa.F
open Go.RowKit Go.Proofs.YtlkinjhmgljapaaW.PrintWords Go.Proofs.YtlkinjhmgljapaaW.PrintLast Go.Proofs.YtlkinjhmgljapaaW.PrintMore
attribute [local go_sem] max2_int min2_int max_two min_two max_three min_three max_four min_four
set_option linter.unusedVariables false
set_option linter.unusedSimpArgs false
mutual
def windbreakref01_Bits.j0 : Nat → List Int → Bool → Option (Int)
 | 0, _, _ => none
 | k + 1, x0, x14 => if x14 = true then (some 0) else (if 0 ≤ (wrap64 ((x0.length : Int) - 1)) then (if (wrap64 ((x0.length : Int) - 1)) < (x0.length : Int) then (windbreakref01_Bits.l0 k x0 0 (rd x0 (wrap64 ((x0.length : Int) - 1)))) else (none)) else (none))
def windbreakref01_Bits.l0 : Nat → List Int → Int → Int → Option (Int)
 | 0, _, _, _ => none
 | k + 1, x0, x4, x5 => if x5 > 0 then (windbreakref01_Bits.l0 k x0 (wrap64 (x4 + 1)) (IntKind.u64.wrap (Int.tdiv x5 2))) else (some (wrap64 (x4 + (wrap64 (64 * (wrap64 ((x0.length : Int) - 1)))))))
end
def windbreakref01_Bits.f (k : Nat) (l0 : List Int) : Option (Int) := (windbreakref01_Right.f l0).bind fun t567 => (if t567 = true then (windbreakref01_Bits.j0 k l0 ((l0.length : Int) == 0)) else (windbreakref01_Bits.j0 k l0 true))
end Go.Proofs.Ytlkinjhmgljapaa.F
end
section
namespace Go.Proofs.Ytlkinjhmgljapaa.Z
open Go.RowKit Go.Proofs.Ytlkinjhmgljapaa.F Go.Proofs.YtlkinjhmgljapaaW.PrintWords
set_option linter.unusedSimpArgs false
set_option linter.unusedVariables false
end Go.Proofs.Ytlkinjhmgljapaa.Z
end
section
namespace Go.Proofs.Ytlkinjhmgljapaa.F
open Go.RowKit Go.Proofs.YtlkinjhmgljapaaW.PrintWords Go.Proofs.YtlkinjhmgljapaaW.PrintLast Go.Proofs.YtlkinjhmgljapaaW.PrintMore
attribute [local go_sem] max2_int min2_int max_two min_two max_three min_three max_four min_four
set_option linter.unusedVariables false
set_option linter.unusedSimpArgs false
mutual
def windbreakref01_Bit.j0 : Nat → List Int → Int → Bool → Option (Bool)
 | 0, _, _, _ => none
 | k + 1, x0, x1, x22 => if x22 = true then (some false) else (if 0 ≤ (wrap64 (Int.tdiv x1 64)) then (if (wrap64 (Int.tdiv x1 64)) < (x0.length : Int) then (windbreakref01_Bit.l0 k x1 (rd x0 (wrap64 (Int.tdiv x1 64))) 0) else (none)) else (none))
def windbreakref01_Bit.l0 : Nat → Int → Int → Int → Option (Bool)
 | 0, _, _, _ => none
 | k + 1, x1, x6, x7 => if x7 < (Int.tmod x1 64) then (windbreakref01_Bit.l0 k x1 (IntKind.u64.wrap (Int.tdiv x6 2)) (wrap64 (x7 + 1))) else (some ((Int.tmod x6 2) == 1))
end
def windbreakref01_Bit.f (k : Nat) (l0 : List Int) (a1 : Int) : Option (Bool) := (windbreakref01_Right.f l0).bind fun t569 => (if t569 = true then (if a1 < 0 then (windbreakref01_Bit.j0 k l0 a1 true) else (windbreakref01_Bit.j0 k l0 a1 (decide ((wrap64 (Int.tdiv a1 64)) ≥ (l0.length : Int))))) else (windbreakref01_Bit.j0 k l0 a1 true))
end Go.Proofs.Ytlkinjhmgljapaa.F
end
section
namespace Go.Proofs.Ytlkinjhmgljapaa.Z
open Go.RowKit Go.Proofs.Ytlkinjhmgljapaa.F Go.Proofs.YtlkinjhmgljapaaW.PrintWords
set_option linter.unusedSimpArgs false
set_option linter.unusedVariables false
end Go.Proofs.Ytlkinjhmgljapaa.Z
end
section
namespace Go.Proofs.Ytlkinjhmgljapaa.F
open Go.RowKit Go.Proofs.YtlkinjhmgljapaaW.PrintWords Go.Proofs.YtlkinjhmgljapaaW.PrintLast Go.Proofs.YtlkinjhmgljapaaW.PrintMore
attribute [local go_sem] max2_int min2_int max_two min_two max_three min_three max_four min_four
set_option linter.unusedVariables false
set_option linter.unusedSimpArgs false
def windbreakref02_Power.l0 : Nat → List Int → List Int → List Int → List Int → Int → Option (List Int)
 | 0, _, _, _, _, _ => none
 | k + 1, x0, x1, x2, x7, x8 => if x8 ≥ 0 then ((windbreakref02_Times.f k x7 x7 x2).bind fun t575 => ((windbreakref01_Bit.f k x1 x8).bind fun t578 => (if t578 = true then ((windbreakref02_Times.f k t575 x0 x2).bind fun t579 => (windbreakref02_Power.l0 k x0 x1 x2 t579 (wrap64 (x8 - 1)))) else (windbreakref02_Power.l0 k x0 x1 x2 t575 (wrap64 (x8 - 1)))))) else (some x7)
def windbreakref02_Power.f (k : Nat) (l0 : List Int) (l1 : List Int) (l2 : List Int) : Option (List Int) := (windbreakref01_Of.f 1).bind fun t571 => ((windbreakref01_Bits.f k l1).bind fun t574 => (windbreakref02_Power.l0 k l0 l1 l2 t571 (wrap64 (t574 - 1))))
end Go.Proofs.Ytlkinjhmgljapaa.F
end
section
namespace Go.Proofs.Ytlkinjhmgljapaa.Z
open Go.RowKit Go.Proofs.Ytlkinjhmgljapaa.F Go.Proofs.YtlkinjhmgljapaaW.PrintWords
set_option linter.unusedSimpArgs false
set_option linter.unusedVariables false
theorem ref_Times_ev (A B M : Nat) (hA : A < b64 ^ 64) (hB : B < b64 ^ 64) (hAB : A * B < b64 ^ 64) (hM : 0 < M) (hM1 : M < b64 ^ 64) : Evt (fun k => windbreakref02_Times.f k (limbs A) (limbs B) (limbs M)) (limbs (A * B % M)) := by
  unfold windbreakref02_Times.f
  have m := ref_Mul_ev (limbs A) (limbs B) (lmax hA) (lmax hB) (dig_limbs' _) (dig_limbs' _)
  have e : mulW (limbs A) (limbs B) = (limbs (A * B), 0) := by
    unfold mulW toldV
    rw [if_pos ⟨right_limbs' hA, right_limbs' hB⟩, num_limbs, num_limbs, if_pos hAB]
  rw [e] at m
  refine Evt.bind m ?_
  have d := ref_Rest_ev (limbs (A * B)) (limbs M) (lmax hAB) (lmax hM1) (dig_limbs' _) (dig_limbs' _)
  unfold divV at d
  rw [if_pos ⟨right_limbs' hAB, right_limbs' hM1⟩, num_limbs, num_limbs, if_neg (by omega)] at d
  exact Evt.bind d (Evt.pure _)
theorem pow8_mul {A B : Nat} (hA : A < b64 ^ 8) (hB : B < b64 ^ 8) : A * B < b64 ^ 64 := by
  have h1 : A * B < b64 ^ 8 * b64 ^ 8 := Nat.mul_lt_mul'' hA hB
  rw [← Nat.pow_add] at h1
  exact Nat.lt_of_lt_of_le h1 (pow64_mono (by omega))
theorem ref2_Mul_ev {n x y : List Int} (h : mayM n = true) (hn : n.length ≤ maxLen) (dn : Dig (b64 : Int) n) (hx : x.length ≤ maxLen) (dx : Dig (b64 : Int) x) (hy : y.length ≤ maxLen) (dy : Dig (b64 : Int) y) :
    Evt (fun k => windbreakref02_Mul.f k x y n) (if (belowB n x && belowB n y) = true then (limbs (montOutN (num n) (64 * n.length) (num x * num y % num n)), 0) else ([], 1)) := by
  obtain ⟨h1, h2, h3, h4, h5⟩ := mayM_parts dn h
  obtain ⟨n1, n2, n3⟩ := mayM_big dn h
  have n6 : b64 ^ 8 ≤ b64 ^ 64 := pow64_mono (by omega)
  unfold windbreakref02_Mul.f
  refine Evt.bind (ref2_Below_ev h1 hn dn hx dx) ?_
  refine Evt.bind (ref2_Below_ev h1 hn dn hy dy) ?_
  have go : belowB n x = true → belowB n y = true → Evt (fun k => windbreakref02_Mul.j0 k x y n false) (limbs (montOutN (num n) (64 * n.length) (num x * num y % num n)), 0) := by
    intro b1 b2
    refine Evt.succ ?_
    simp only [windbreakref02_Mul.j0]
    refine Evt.ite_neg (by simp) ?_
    obtain ⟨_, x2, x3⟩ := below_parts dx b1
    obtain ⟨_, y2, y3⟩ := below_parts dy b2
    have t := ref_Times_ev (num x) (num y) (num n) (by omega) (by omega) (pow8_mul (by omega) (by omega)) (by omega) (by omega)
    rw [← x3, ← y3, limbs_num dn ((rightB_iff n).1 h1).2] at t
    refine Evt.bind t ?_
    have hlt : num x * num y % num n < num n := Nat.mod_lt _ (by omega)
    have o := ref2_Out_ev (x := limbs (num x * num y % num n)) h hn dn (lmax (by omega)) (dig_limbs' _)
    rw [below_limbs hlt (by omega), if_pos rfl, num_limbs] at o
    exact Evt.bind o (Evt.pure _)
  have bad : Evt (fun k => windbreakref02_Mul.j0 k x y n true) ([], 1) := by
    refine Evt.succ ?_
    simp only [windbreakref02_Mul.j0]
    exact Evt.ite_pos (by simp) (Evt.pure _)
  cases b1 : belowB n x with
  | false =>
    rw [Bool.false_and, if_neg (by simp)]
    exact Evt.ite_neg (by simp) bad
  | true =>
    refine Evt.ite_pos (by simp) ?_
    cases b2 : belowB n y with
    | false => exact bad
    | true => exact go b1 b2
end Go.Proofs.Ytlkinjhmgljapaa.Z
end
section
namespace Go.Proofs.Ytlkinjhmgljapaa.Pure
open Go.RowKit Go.Proofs.Ytlkinjhmgljapaa.F Go.Proofs.Ytlkinjhmgljapaa.Z
set_option linter.unusedSimpArgs false
set_option linter.unusedVariables false
theorem MontProducts : windbreaklaw02_MontProducts.Pure := by
  intro n a b hl _ hw ha _ hwa hb _ hwb
  apply Evt.get
  unfold windbreaklaw02_MontProducts.f
  have dn := dig_of_wf hw
  have da := dig_of_wf hwa
  have db := dig_of_wf hwb
  refine Evt.bind (fresh_ev hl dn) ?_
  by_cases h : mayM n = true
  · rw [if_pos h]
    refine Evt.bind (mont_Mul_ev h dn ha da hb db) ?_
    refine Evt.bind (ref2_Mul_ev h hl dn ha da hb db) ?_
    have hlen : (if (belowB n a && belowB n b) = true then (limbs (montOutN (num n) (64 * n.length) (num a * num b % num n)), (0 : Int)) else ([], 1)).1.length ≤ maxLen := by
      obtain ⟨n1, n2, n3⟩ := mayM_big dn h
      split
      · exact lmax (Nat.lt_of_lt_of_le (Nat.lt_trans (montOutN_lt _ (Nat.mod_lt _ (by omega))) n2) (pow64_mono (by omega)))
      · exact Nat.zero_le _
    refine Evt.bind (same_ev _ _ hlen) ?_
    exact (Evt.pure _).congr (fun k => rfl) (by simp)
  · rw [if_neg h]
    exact Evt.pure _
end Go.Proofs.Ytlkinjhmgljapaa.Pure
end
section
namespace Go.Proofs.YtlkinjhmgljapaaW.PrintWords
open Go.ChangeShapes Go.WideShapes
theorem sized_ints {H : Type} {enc : TypeId × Value → H} {P : Program} {W : World} {base : Nat} {spare : Nat → Bool} {held : Bool} {t e : TypeId} {k : IntKind} {a : Option Addr} {len cap : Nat} {d : DataW H} {ps : List MemPlace} {ts : List TypeId} {ds : List (DataW H)} {j : Nat}
    (hsz : (DataW.weightsEach P ts ds).all (· ≤ reachBytes) = true) (ht : ts[j]? = some t) (hd : ds[j]? = some d) (hu : P.underlying t = some (.slice e)) (he : P.underlying e = some (.int k)) (hc : P.cellsOf e = 1) {B : Nat} (hB : P.bytesOf e = B)
    (h : DataW.Trod enc P W base spare held t (.slice a len cap) d ps) : len * B ≤ 140737488351232 := by
  obtain ⟨fuel, hf⟩ := h
  rcases open_ints hu he hc hf with ⟨hcs, _⟩ | ⟨x, l, c, zs, hcs, _, hl, _, hz, hx, _, _⟩
  · simp [Value.cells] at hcs
    obtain ⟨rfl, rfl, rfl⟩ := hcs
    simp
  · simp [Value.cells] at hcs
    obtain ⟨rfl, rfl, rfl⟩ := hcs
    obtain ⟨hx, _⟩ := Prod.mk.inj hx
    subst hx
    have z := sized_slice hsz ht hd hu
    rw [hB] at z
    have hl2 : len ≤ zs.length := by
      rw [hz]
      split
      · exact hl
      · exact Nat.le_refl _
    have h1 : (lits (H := H) k (zs.take len)).length + (lits (H := H) k (zs.drop len)).length = zs.length := by
      simp [lits]
      omega
    rw [h1] at z
    exact Nat.le_trans (Nat.mul_le_mul_right _ hl2) z
end Go.Proofs.YtlkinjhmgljapaaW.PrintWords
end
section
namespace Go.Proofs.Ytlkinjhmgljapaa.montProducts
open Go.ChangeShapes Go.WideShapes Go.ChangeAt Go.RowKit
open Go.ChangeMaps (open_string shut_string)
set_option linter.unusedVariables false
theorem own : ownKnob Try.prog.godebug = none := by kernel_rfl
theorem laidOut : laidOutB Try.prog = true := by kernel_rfl
def IsRow (k : IntKind) (w : World) (a : Option Addr) (len cap : Nat) (zs : List Int) : Prop :=
  (a = none ∧ len = 0 ∧ cap = 0 ∧ zs = []) ∨
  ∃ x, a = some x ∧ len ≤ cap ∧ cap ≤ maxLen ∧ zs.length = cap ∧ (∀ i, i < zs.length → w.cell? (x.add i) = some (.int k (zs.getD i 0))) ∧ ∀ n ∈ zs, (Lit.int k n).wf = true
set_option maxRecDepth 100000 in
theorem lifted (os : Os) (started : os.Started) (H : Type) (enc : TypeId × Value → H) :
    ReturnsInHanded {} Try.checked os 3 .any (Rows.montProductsSpec.pre6 enc Try.prog Try.f3 Rows.montProductsRow.domain false) (Rows.montProductsSpec.post enc Try.prog Try.f3 false true false false) := by
  refine returnsInHanded_of_change_sized (C := Try.checked) own started (by kernel_rfl) Try.func3
    (ChangeSpec.witness6 (enc := enc) (C := Try.checked) false ⟨#[], #[.slice none 0 0, .slice none 0 0, .slice none 0 0], []⟩ 8 (by kernel_rfl) (by kernel_rfl) (by kernel_rfl) (by kernel_rfl)) ?_
  intro W base args ds gs before hval0 hW hcnd hsz0 _
  have hsz : (DataW.weightsEach Try.prog (Try.f3.params.toList ++ Rows.montProductsSpec.plain.varTypes Try.prog) (ds ++ gs)).all (· ≤ reachBytes) = true := hsz0
  have hval : ∀ (j : Nat) t v, Try.f3.params[j]? = some t → args[j]? = some v → Value.okWide Try.prog W .any base t v := hval0
  have hW' := hW
  obtain ⟨p, q, hA0, hV, rfl, hfz, hnd⟩ := hW
  have hA : DataW.TrodAll enc Try.prog W 0 (fun _ => true) true Try.f3.params.toList args.toList ds p := hA0
  rw [Try.params3] at hA hval hsz
  obtain ⟨v0, vs0, d0, ds0, p0, q0, hargs, rfl, rfl, h0, r0⟩ := trodAll_cons hA
  obtain ⟨v1, vs1, d1, ds1, p1, q1, rfl, rfl, rfl, h1, r1⟩ := trodAll_cons r0
  obtain ⟨v2, vs2, d2, ds2, p2, q2, rfl, rfl, rfl, h2, r2⟩ := trodAll_cons r1
  obtain ⟨rfl, rfl, rfl⟩ := trodAll_nil r2
  obtain rfl : args = #[v0, v1, v2] := by cases args; simp_all
  obtain ⟨rfl, rfl⟩ := trodVars_none hV
  obtain ⟨a0, len0, cap0, rfl⟩ := okWide_slice Try.underlying23 (hval 0 23 v0 rfl rfl)
  have k0 := h0
  have lt0 : ∀ x ∈ p0, x.block < W.heap.size := by obtain ⟨m, hm⟩ := k0; exact DataW.trod_lt m _ _ _ hm
  obtain ⟨z0, w0⟩ : ∃ zs, IsRow .u64 W a0 len0 cap0 zs := by
    obtain ⟨fuel, hf⟩ := h0
    rcases open_ints Try.underlying23 Try.underlying50 (by kernel_rfl) hf with ⟨hcs, _⟩ | ⟨x, l, c, zs, hcs, _, hl, hm, hz, _, hcell, hwz⟩
    · simp [Value.cells] at hcs
      obtain ⟨rfl, rfl, rfl⟩ := hcs
      exact ⟨[], .inl ⟨rfl, rfl, rfl, rfl⟩⟩
    · simp [Value.cells] at hcs
      obtain ⟨rfl, rfl, rfl⟩ := hcs
      exact ⟨zs, .inr ⟨_, rfl, hl, hm, by simpa using hz, hcell, hwz⟩⟩
  have y0 : len0 * 8 ≤ 140737488351232 := Go.Proofs.YtlkinjhmgljapaaW.PrintWords.sized_ints hsz (j := 0) (t := 23) rfl rfl Try.underlying23 Try.underlying50 (by kernel_rfl) (by kernel_rfl) h0
  obtain ⟨a1, len1, cap1, rfl⟩ := okWide_slice Try.underlying23 (hval 1 23 v1 rfl rfl)
  have k1 := h1
  have lt1 : ∀ x ∈ p1, x.block < W.heap.size := by obtain ⟨m, hm⟩ := k1; exact DataW.trod_lt m _ _ _ hm
  obtain ⟨z1, w1⟩ : ∃ zs, IsRow .u64 W a1 len1 cap1 zs := by
    obtain ⟨fuel, hf⟩ := h1
    rcases open_ints Try.underlying23 Try.underlying50 (by kernel_rfl) hf with ⟨hcs, _⟩ | ⟨x, l, c, zs, hcs, _, hl, hm, hz, _, hcell, hwz⟩
    · simp [Value.cells] at hcs
      obtain ⟨rfl, rfl, rfl⟩ := hcs
      exact ⟨[], .inl ⟨rfl, rfl, rfl, rfl⟩⟩
    · simp [Value.cells] at hcs
      obtain ⟨rfl, rfl, rfl⟩ := hcs
      exact ⟨zs, .inr ⟨_, rfl, hl, hm, by simpa using hz, hcell, hwz⟩⟩
  have y1 : len1 * 8 ≤ 140737488351232 := Go.Proofs.YtlkinjhmgljapaaW.PrintWords.sized_ints hsz (j := 1) (t := 23) rfl rfl Try.underlying23 Try.underlying50 (by kernel_rfl) (by kernel_rfl) h1
  obtain ⟨a2, len2, cap2, rfl⟩ := okWide_slice Try.underlying23 (hval 2 23 v2 rfl rfl)
  have k2 := h2
  have lt2 : ∀ x ∈ p2, x.block < W.heap.size := by obtain ⟨m, hm⟩ := k2; exact DataW.trod_lt m _ _ _ hm
  obtain ⟨z2, w2⟩ : ∃ zs, IsRow .u64 W a2 len2 cap2 zs := by
    obtain ⟨fuel, hf⟩ := h2
    rcases open_ints Try.underlying23 Try.underlying50 (by kernel_rfl) hf with ⟨hcs, _⟩ | ⟨x, l, c, zs, hcs, _, hl, hm, hz, _, hcell, hwz⟩
    · simp [Value.cells] at hcs
      obtain ⟨rfl, rfl, rfl⟩ := hcs
      exact ⟨[], .inl ⟨rfl, rfl, rfl, rfl⟩⟩
    · simp [Value.cells] at hcs
      obtain ⟨rfl, rfl, rfl⟩ := hcs
      exact ⟨zs, .inr ⟨_, rfl, hl, hm, by simpa using hz, hcell, hwz⟩⟩
  have y2 : len2 * 8 ≤ 140737488351232 := Go.Proofs.YtlkinjhmgljapaaW.PrintWords.sized_ints hsz (j := 2) (t := 23) rfl rfl Try.underlying23 Try.underlying50 (by kernel_rfl) (by kernel_rfl) h2
  clear hA0 hval0 hsz0 hsz
  refine (F.windbreaklaw02_MontProducts.walk Pure.MontProducts a0 len0 cap0 z0 a1 len1 cap1 z1 a2 len2 cap2 z2 W w0 y0 w1 y1 w2 y2).mono fun e W' ⟨he, bel⟩ => ?_
  subst he
  exact ⟨_, rfl, _, _, _, [], _, [], hW', trodAll_mk1 (shut_bool Try.underlying4 _), (trodAll_cons_mk (Below.trod laidOut (by kernel_rfl) (of_decide_eq_true (by kernel_rfl)) k0 bel lt0) (trodAll_cons_mk (Below.trod laidOut (by kernel_rfl) (of_decide_eq_true (by kernel_rfl)) k1 bel lt1) (trodAll_cons_mk (Below.trod laidOut (by kernel_rfl) (of_decide_eq_true (by kernel_rfl)) k2 bel lt2) trodAll_mk0))), rfl, bel.frame _, fun h => by cases h⟩
theorem over : Rows.montProductsRow.holds Try.pinned (OpenSpec.ofChange Rows.montProductsSpec) :=
  OpenClaim.holds_of_wide 3 Try.f3 rfl rfl rfl rfl rfl rfl rfl ⟨rfl, rfl, rfl, rfl, rfl⟩ rfl rfl rfl rfl rfl (by kernel_rfl) Try.func3 (by kernel_rfl)
    (of_decide_eq_true (by kernel_rfl)) (by unfold Func.isWrapper; first | (rw [if_pos (by decide +kernel)]; kernel_rfl) | (rw [if_neg (by decide +kernel)]; exact ⟨rfl, rfl⟩))
    (fun os started H enc _ => lifted os started H enc)
theorem proved : Rows.MontProductsSaid := over
#print axioms proved
end Go.Proofs.Ytlkinjhmgljapaa.montProducts
namespace Go.Proofs.Ytlkinjhmgljapaa
theorem montProducts_holds : Rows.MontProductsSaid := montProducts.proved
end Go.Proofs.Ytlkinjhmgljapaa
end
